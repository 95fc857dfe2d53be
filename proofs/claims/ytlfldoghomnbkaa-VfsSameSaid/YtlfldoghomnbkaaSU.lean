import Derived.Test.YtlfldoghomnbkaaSXVfE
import Derived.Test.YtlfldoghomnbkaaSXVf0
import Derived.Test.YtlfldoghomnbkaaSXVf2
import Derived.Test.YtlfldoghomnbkaaSQSame
import Derived.Deep.RegionHeld3
import Derived.Deep.RegionWith
import Derived.Shelf.Abstract
import Derived.Test.YtlfldoghomnbkaaSXExt
import Derived.Test.YtlfldoghomnbkaaSVf13
-- Texts of this seat, what the claim does not reach struck out by a program.
section
namespace Go.Proofs.Ytlfldoghomnbkaa.QVfs
open Go.RowKit Go.Proofs.YtlfldoghomnbkaaW.PrintWords Go.Proofs.YtlfldoghomnbkaaW.PrintLast Go.Proofs.YtlfldoghomnbkaaW.PrintMore
set_option linter.unusedVariables false
set_option linter.unusedSimpArgs false
theorem items_cons {P : Program} {d : Nat} {e : TypeId} {c : Nat} {xs ys : Array Value} {i : Nat} {is : List Nat} {a b : Value} {r s : Bool} {w : World} (ha : (part e xs (i * c)).run P w = .ok a w) (hb : (part e ys (i * c)).run P w = .ok b w) (he : (Op.equalIn d e a b).run P w = .ok r w) (hr : (Op.eqItems d e c xs ys is).run P w = .ok s w) : (Op.eqItems d e c xs ys (i :: is)).run P w = .ok (r && s) w := by
 simp only [Op.eqItems, Sem.run_bind, ha, hb, he, Result.andThen_ok]
 cases r
 ·simp
 ·simpa using hr
theorem eqStamp (d : Nat) (w : World) (x0 y0 x1 y1 x2 y2 : Int) :
  (Op.equalIn (d + 2) 34 (.agg #[.int .i64 x0, .int .i64 x1, .int .i64 x2]) (.agg #[.int .i64 y0, .int .i64 y1, .int .i64 y2])).run Try.prog w = .ok ((x0 == y0) && ((x1 == y1) && ((x2 == y2) && true))) w := by
 obtain ⟨i0, hi⟩ : ∃ i0, Try.prog.info? 2 = some i0 := Option.isSome_iff_exists.1 (by kernel_rfl)
 rw [run_equalIn_array w (d + 1) _ _ Try.underlying34 hi, show List.range 3 = [0, 1, 2] from rfl, show Try.prog.cellsOf 2 = 1 from by kernel_rfl]
 refine items_cons (by go_simp; rfl) (by go_simp; rfl) (by go_simp) ?_
 refine items_cons (by go_simp; rfl) (by go_simp; rfl) (by go_simp) ?_
 refine items_cons (by go_simp; rfl) (by go_simp; rfl) (by go_simp) ?_
 simp [Op.eqItems]
def eqNode (x y : Node) : Bool := (x.f0 == y.f0) && ((x.f1 == y.f1) && ((x.f2 == y.f2) && ((x.f3 == y.f3) && ((x.f4 == y.f4) && ((x.f5 == y.f5) && ((x.f6 == y.f6) && ((x.f7 == y.f7) && ((x.f8 == y.f8) && (((x.f9.f0 == y.f9.f0) && ((x.f9.f1 == y.f9.f1) && ((x.f9.f2 == y.f9.f2) && true))) && (x.f10.toList == y.f10.toList))))))))))
theorem eqN (d : Nat) (w : World) (x y : Node) :
  (Op.equalIn (d + 3) 36 (.agg (encN x).toArray) (.agg (encN y).toArray)).run Try.prog w = .ok (eqNode x y) w := by
 unfold eqNode
 refine eqA_of Try.underlying36 (by kernel_rfl) ?_
 refine eqf_cons (by rfl) (by go_simp; rfl) (by go_simp; rfl) (by go_simp) ?_
 refine eqf_cons (by rfl) (by go_simp; rfl) (by go_simp; rfl) (by go_simp) ?_
 refine eqf_cons (by rfl) (by go_simp; rfl) (by go_simp; rfl) (by go_simp) ?_
 refine eqf_cons (by rfl) (by go_simp; rfl) (by go_simp; rfl) (by go_simp) ?_
 refine eqf_cons (by rfl) (by go_simp; rfl) (by go_simp; rfl) (by go_simp) ?_
 refine eqf_cons (by rfl) (by go_simp; rfl) (by go_simp; rfl) (by go_simp) ?_
 refine eqf_cons (by rfl) (by go_simp; rfl) (by go_simp; rfl) (by go_simp) ?_
 refine eqf_cons (by rfl) (by go_simp; rfl) (by go_simp; rfl) (by go_simp) ?_
 refine eqf_cons (by rfl) (by go_simp; rfl) (by go_simp; rfl) (by go_simp) ?_
 refine eqf_cons (by rfl) (by go_simp; rfl) (by go_simp; rfl) (eqStamp _ _ _ _ _ _ _ _) ?_
 exact eqf_last (by rfl) (by go_simp; rfl) (by go_simp; rfl) (by go_simp)
end Go.Proofs.Ytlfldoghomnbkaa.QVfs
end

section
namespace Go.Proofs.Ytlfldoghomnbkaa.QVfs
open Go.RowKit Go.Proofs.YtlfldoghomnbkaaW.PrintWords Go.Proofs.YtlfldoghomnbkaaW.PrintLast Go.Proofs.YtlfldoghomnbkaaW.PrintMore
set_option linter.unusedVariables false
set_option linter.unusedSimpArgs false
def eqE (x y : Entry) : Bool := (x.f0.toList == y.f0.toList) && (x.f1 == y.f1)
def sameL {α : Type} (p : α → α → Bool) : List α → List α → Bool
 | [], [] => true
 | x :: a, y :: b => p x y && sameL p a b
 | _, _ => false
theorem sameL_len {α : Type} {p : α → α → Bool} : ∀ {a b : List α}, a.length ≠ b.length → sameL p a b = false
 | [], [], h => absurd rfl h
 | [], _ :: _, _ => rfl
 | _ :: _, [], _ => rfl
 | x :: a, y :: b, h => by
  rw [sameL, sameL_len (a := a) (b := b) (fun e => h (congrArg (· + 1) e)), Bool.and_false]
theorem sameL_refl {α : Type} {p : α → α → Bool} (hp : ∀ x, p x x = true) : ∀ a : List α, sameL p a a = true
 | [] => rfl
 | x :: a => by rw [sameL, hp x, sameL_refl hp a]; rfl
theorem sameL_drop {α : Type} {p : α → α → Bool} {a b : List α} (hl : a.length = b.length) {i : Nat} (h : i < a.length) : sameL p (a.drop i) (b.drop i) = (p a[i] (b[i]'(by omega)) && sameL p (a.drop (i + 1)) (b.drop (i + 1))) := by
 rw [List.drop_eq_getElem_cons h, List.drop_eq_getElem_cons (show i < b.length by omega), sameL]
theorem sameL_end {α : Type} {p : α → α → Bool} {a b : List α} (hl : a.length = b.length) : sameL p (a.drop a.length) (b.drop a.length) = true := by
 rw [List.drop_length, hl, List.drop_length]; rfl
def sameI (x y : Item) : Bool := eqNode x.f0 y.f0 && ((x.f2 == y.f2) && ((x.f3 == y.f3) && ((x.f4 == y.f4) && sameL eqE x.f1 y.f1)))
def Fs.sameB (F G : Fs) : Bool := sameL (fun a b : Int => a == b) F.D G.D && sameL sameI F.I G.I
theorem equalE_l (a b : List Entry) (hl : a.length = b.length) (hm : a.length ≤ 100000) : ∀ m i k : Nat, a.length - i ≤ m → i ≤ a.length → m + 1 ≤ k → slices_Equal_E.l0 k a b (a.length : Int) (i : Int) = some (sameL eqE (a.drop i) (b.drop i)) := by
 intro m
 induction m with
 | zero =>
  intro i k h1 h2 h3
  obtain ⟨k, rfl⟩ : ∃ j, k = j + 1 := ⟨k - 1, by omega⟩
  obtain rfl : i = a.length := by omega
  rw [slices_Equal_E.l0, if_neg (by omega), sameL_end hl]
 | succ m ih =>
  intro i k h1 h2 h3
  obtain ⟨k, rfl⟩ : ∃ j, k = j + 1 := ⟨k - 1, by omega⟩
  by_cases g : i < a.length
  ·have o1 : a.length - (i + 1) ≤ m := by omega
   have o2 : i + 1 ≤ a.length := by omega
   have o3 : m + 1 ≤ k := by omega
   have g1 : (i : Int) < (a.length : Int) := by omega
   have g2 : (0 : Int) ≤ (i : Int) := by omega
   have g3 : (i : Int) < (b.length : Int) := by omega
   have hw : wrap64 ((i : Int) + 1) = ((i + 1 : Nat) : Int) := by unfold wrap64; omega
   have ea : rd_T61 a (i : Int) = a[i] := by unfold rd_T61; simp [g]
   have eb : rd_T61 b (i : Int) = b[i]'(by omega) := by unfold rd_T61; simp [show i < b.length by omega]
   rw [slices_Equal_E.l0, if_pos g1, if_pos g2, if_pos g1, if_pos g3, ea, eb, sameL_drop hl g]
   rw [hw, ih (i + 1) k o1 o2 o3]
   unfold eqE
   cases h4 : (a[i].f0.toList == (b[i]'(by omega)).f0.toList) <;> cases h5 : (a[i].f1 == (b[i]'(by omega)).f1) <;> rfl
  ·obtain rfl : i = a.length := by omega
   rw [slices_Equal_E.l0, if_neg (by omega), sameL_end hl]
theorem equalE_f (a b : List Entry) (hm : a.length ≤ 100000) : slices_Equal_E.f (a.length + 1) a b = some (sameL eqE a b) := by
 unfold slices_Equal_E.f
 by_cases h : a.length = b.length
 ·rw [if_pos (by omega)]
  exact equalE_l a b h hm a.length 0 _ (by omega) (by omega) (by omega)
 ·rw [if_neg (by omega), sameL_len h]
theorem equalI_l (a b : List Int) (hl : a.length = b.length) (hm : a.length ≤ 100000) : ∀ m i k : Nat, a.length - i ≤ m → i ≤ a.length → m + 1 ≤ k → slices_Equal_int_int.l0 k a b (a.length : Int) (i : Int) = some (sameL (fun a b : Int => a == b) (a.drop i) (b.drop i)) := by
 intro m
 induction m with
 | zero =>
  intro i k h1 h2 h3
  obtain ⟨k, rfl⟩ : ∃ j, k = j + 1 := ⟨k - 1, by omega⟩
  obtain rfl : i = a.length := by omega
  rw [slices_Equal_int_int.l0, if_neg (by omega), sameL_end hl]
 | succ m ih =>
  intro i k h1 h2 h3
  obtain ⟨k, rfl⟩ : ∃ j, k = j + 1 := ⟨k - 1, by omega⟩
  by_cases g : i < a.length
  ·have o1 : a.length - (i + 1) ≤ m := by omega
   have o2 : i + 1 ≤ a.length := by omega
   have o3 : m + 1 ≤ k := by omega
   have g1 : (i : Int) < (a.length : Int) := by omega
   have g2 : (0 : Int) ≤ (i : Int) := by omega
   have g3 : (i : Int) < (b.length : Int) := by omega
   have hw : wrap64 ((i : Int) + 1) = ((i + 1 : Nat) : Int) := by unfold wrap64; omega
   have ea : rd a (i : Int) = a[i] := by unfold rd; simp [g]
   have eb : rd b (i : Int) = b[i]'(by omega) := by unfold rd; simp [show i < b.length by omega]
   rw [slices_Equal_int_int.l0, if_pos g1, if_pos g2, if_pos g1, if_pos g3, ea, eb, sameL_drop hl g]
   rw [hw, ih (i + 1) k o1 o2 o3]
   by_cases e : a[i] = b[i]'(by omega)
   ·rw [if_pos e, beq_iff_eq.2 e]; rfl
   ·rw [if_neg e, beq_eq_false_iff_ne.2 e]; rfl
  ·obtain rfl : i = a.length := by omega
   rw [slices_Equal_int_int.l0, if_neg (by omega), sameL_end hl]
theorem equalI_f (a b : List Int) (hm : a.length ≤ 100000) : slices_Equal_int_int.f (a.length + 1) a b = some (sameL (fun a b : Int => a == b) a b) := by
 unfold slices_Equal_int_int.f
 by_cases h : a.length = b.length
 ·rw [if_pos (by omega)]
  exact equalI_l a b h hm a.length 0 _ (by omega) (by omega) (by omega)
 ·rw [if_neg (by omega), sameL_len h]
attribute [local go_sem high] eqN
set_option maxHeartbeats 4000000 in
set_option maxRecDepth 100000 in
theorem same1_calls (x y : Item) (A A' : Option Addr) (c c' : Nat) (w : World) (hx : Kd.C k61 w A x.f1.length x.f1) (hc : x.f1.length ≤ c) (hy : Kd.C k61 w A' y.f1.length y.f1) (hc' : y.f1.length ≤ c') (hm : x.f1.length ≤ 100000) :
  Calls Try.prog 47 #[.agg (encI x (.slice A x.f1.length c)).toArray, .agg (encI y (.slice A' y.f1.length c')).toArray] w fun e w' => e = .returned (.bool (sameI x y)) ∧ Below w.heap.size w w' := by
 have HE := fun (W : World) (hb : Below w.heap.size w W) => slices_Equal_E.calls (x.f1.length + 1) A c x.f1 A' c' y.f1 (sameL eqE x.f1 y.f1) W (Kd.C_below hx hb) hc (Kd.C_below hy hb) hc' (equalE_f x.f1 y.f1 hm)
 have HE := Aside0.mk HE
 have q := fun (d : Nat) (W : World) => eqN d W x.f0 y.f0
 obtain ⟨R, hR⟩ : ∃ R, R = sameI x y := ⟨_, rfl⟩
 rw [← hR]
 unfold sameI at hR
 generalize sameL eqE x.f1 y.f1 = tE at HE hR
 obtain ⟨x0, l, x2, x3, x4⟩ := x
 obtain ⟨y0, m, y2, y3, y4⟩ := y
 simp only at *
 generalize eqNode x0 y0 = tN at q hR
 obtain ⟨t2, e2⟩ : ∃ t, t = (x2 == y2) := ⟨_, rfl⟩
 obtain ⟨t3, e3⟩ : ∃ t, t = (x3 == y3) := ⟨_, rfl⟩
 obtain ⟨t4, e4⟩ : ∃ t, t = (x4 == y4) := ⟨_, rfl⟩
 rw [← e2, ← e3, ← e4] at hR
 have HR := Aside0.mk hR
 clear hR hx hy
 have d2 := e2.symm
 have d3 := e3.symm
 have d4 := e4.symm
 clear e2 e3 e4
 unfold encN at q
 unfold encI
 go_enter Try.func47, Try.ntmps47
 have hB : Below w.heap.size w ((w.alloc (.cells (encI ⟨x0, l, x2, x3, x4⟩ (.slice A l.length c)).toArray TI)).alloc (.cells (encI ⟨y0, m, y2, y3, y4⟩ (.slice A' m.length c')).toArray TI)) := ((Below.refl _ w).alloc (Nat.le_refl _) _).alloc (by simp) _
 have HB := Aside0.mk hB
 clear hB
 cases tN
 ·have HV : Aside0 (R = false) := Aside0.mk (HR.out)
  go_wp2_with fail
  go_ret
  exact ⟨by rw [HV.out]; rfl, HB.out⟩
 cases t2
 ·have HV : Aside0 (R = false) := Aside0.mk (HR.out)
  go_wp2_with fail
  go_ret
  exact ⟨by rw [HV.out]; rfl, HB.out⟩
 cases t3
 ·have HV : Aside0 (R = false) := Aside0.mk (HR.out)
  go_wp2_with fail
  go_ret
  exact ⟨by rw [HV.out]; rfl, HB.out⟩
 cases t4
 ·have HV : Aside0 (R = false) := Aside0.mk (HR.out)
  go_wp2_with fail
  go_ret
  exact ⟨by rw [HV.out]; rfl, HB.out⟩
 have HV : Aside0 (R = tE) := Aside0.mk (HR.out)
 go_wp2_with fail
 refine (HE.out _ HB.out).mono ?_
 rintro e w1 ⟨rfl, hd⟩
 have hb1 := below_step HB.out hd.below
 have HB1 := Aside0.mk hb1
 clear hd hb1
 go_wp2_with fail
 go_ret
 exact ⟨by rw [HV.out]; rfl, HB1.out⟩
end Go.Proofs.Ytlfldoghomnbkaa.QVfs
end

section
namespace Go.Proofs.Ytlfldoghomnbkaa.QVfs
open Go.RowKit Go.Proofs.YtlfldoghomnbkaaW.PrintWords Go.Proofs.YtlfldoghomnbkaaW.PrintLast Go.Proofs.YtlfldoghomnbkaaW.PrintMore
set_option linter.unusedVariables false
set_option linter.unusedSimpArgs false
theorem below_all5 {w : World} (o : Obj) : Below w.heap.size w (w.alloc o) := (Below.refl _ w).alloc (Nat.le_refl _) _
theorem item_cells {W : World} {b : Nat} {x : Item} {e : Value} (h : W.heap[b]? = some (.cells (encI x e).toArray TI (0, 0))) : W.cell? ⟨b, 0, none⟩ = some (.int .i64 x.f0.f0) ∧ W.cell? ⟨b, 1, none⟩ = some (.int .i64 x.f0.f1) ∧ W.cell? ⟨b, 2, none⟩ = some (.int .i64 x.f0.f2) ∧ W.cell? ⟨b, 3, none⟩ = some (.int .i64 x.f0.f3) ∧ W.cell? ⟨b, 4, none⟩ = some (.int .i64 x.f0.f4) ∧ W.cell? ⟨b, 5, none⟩ = some (.int .i64 x.f0.f5) ∧ W.cell? ⟨b, 6, none⟩ = some (.int .i64 x.f0.f6) ∧ W.cell? ⟨b, 7, none⟩ = some (.int .i64 x.f0.f7) ∧ W.cell? ⟨b, 8, none⟩ = some (.int .i64 x.f0.f8) ∧ W.cell? ⟨b, 9, none⟩ = some (.int .i64 x.f0.f9.f0) ∧ W.cell? ⟨b, 10, none⟩ = some (.int .i64 x.f0.f9.f1) ∧ W.cell? ⟨b, 11, none⟩ = some (.int .i64 x.f0.f9.f2) ∧ W.cell? ⟨b, 12, none⟩ = some (.string x.f0.f10) ∧ W.cell? ⟨b, 13, none⟩ = some e ∧ W.cell? ⟨b, 14, none⟩ = some (.int .i64 x.f2) ∧ W.cell? ⟨b, 15, none⟩ = some (.int .i64 x.f3) ∧ W.cell? ⟨b, 16, none⟩ = some (.bool x.f4) :=
 ⟨blk_cell h 0, blk_cell h 1, blk_cell h 2, blk_cell h 3, blk_cell h 4, blk_cell h 5, blk_cell h 6, blk_cell h 7, blk_cell h 8, blk_cell h 9, blk_cell h 10, blk_cell h 11, blk_cell h 12, blk_cell h 13, blk_cell h 14, blk_cell h 15, blk_cell h 16⟩
set_option maxHeartbeats 8000000 in
set_option maxRecDepth 100000 in
theorem equalFunc_calls (I J : List Item) (A A' : Option Addr) (c c' : Nat) (w : World) (hI : Kd.C kItem w A I.length I) (hc : I.length ≤ c) (hJ : Kd.C kItem w A' J.length J) (hc' : J.length ≤ c') (hm : ∀ x ∈ I, x.f1.length ≤ 100000)
  (eg : ∀ args w, (callFunc 47 args).run Try.prog w = .ok (.enter 47 args) w) :
  Calls Try.prog 46 #[.slice A I.length c, .slice A' J.length c', .func (.func 47) #[] #[]] w fun e w' => e = .returned (.bool (sameL sameI I J)) ∧ Below w.heap.size w w' := by
 have hmI := Kd.C_max hI
 have hmJ := Kd.C_max hJ
 have HI := Aside0.mk hI
 have HJ := Aside0.mk hJ
 have HM := Aside0.mk hm
 clear hI hJ hm
 by_cases hl : I.length = J.length
 ·have HL := Aside0.mk hl
  have d0 : ((I.length : Int) != (J.length : Int)) = false := by rw [hl]; simp
  clear hl
  go_enter Try.func46, Try.ntmps46
  go_wp2
  go_loopw [17] (fun v17 wr => ∃ k : Nat, v17 = .int .i64 k ∧ k ≤ I.length ∧ Aside0 (Below w.heap.size w wr) ∧ Aside0 (sameL sameI I J = sameL sameI (I.drop k) (J.drop k))) (fun v17 _ => I.length - (intOf v17).toNat)
  case atStart => exact ⟨0, rfl, Nat.zero_le _, ⟨Below.refl _ _⟩, ⟨rfl⟩⟩
  case round =>
   obtain ⟨k, rfl, hk, HB, HN⟩ := hrel
   by_cases hlt : k < I.length
   ·have n1 : (k : Int) < (I.length : Int) := by omega
    have n2 : (k : Int) < (J.length : Int) := by have := HL.out; omega
    obtain ⟨ad, A13, c13, he, a0, a1, a2, a3, a4, a5, a6, a7, a8, a9, a10, a11, a12, a13, a14, a15, a16, l13, g13⟩ := at_T74 (Kd.C_below HI.out HB.out) (k : Int) (by omega) n1
    have ex : rd_T74 I (k : Int) = I[k] := by unfold rd_T74; simp [hlt]
    rw [ex, Int.toNat_natCast] at a0 a1 a2 a3 a4 a5 a6 a7 a8 a9 a10 a11 a12 a13 a14 a15 a16
    rw [ex] at l13 g13
    subst he
    have hx : ∃ x, x = I[k] := ⟨_, rfl⟩
    obtain ⟨x, hx⟩ := hx
    rw [← hx] at a0 a1 a2 a3 a4 a5 a6 a7 a8 a9 a10 a11 a12 a13 a14 a15 a16 l13 g13
    have HX := Aside0.mk hx
    clear ex hx
    go_upto_region 6 with fail
    obtain ⟨W5, hW5⟩ : ∃ W5, W5 = wr.alloc (.cells #[.int .i64 x.f0.f0, .int .i64 x.f0.f1, .int .i64 x.f0.f2, .int .i64 x.f0.f3, .int .i64 x.f0.f4, .int .i64 x.f0.f5, .int .i64 x.f0.f6, .int .i64 x.f0.f7, .int .i64 x.f0.f8, .int .i64 x.f0.f9.f0, .int .i64 x.f0.f9.f1, .int .i64 x.f0.f9.f2, .string x.f0.f10, .slice A13 x.f1.length c13, .int .i64 x.f2, .int .i64 x.f3, .bool x.f4] 74) := ⟨_, rfl⟩
    have hw5 := hW5
    rw [← hW5]
    have hb5 : Below wr.heap.size wr W5 := by rw [hW5]; exact below_all5 _
    have hn5 : W5.heap[wr.heap.size]? = some (.cells (encI x (.slice A13 x.f1.length c13)).toArray TI (0, 0)) := by rw [hW5]; exact heap_alloc_new wr _
    have HB5 := Aside0.mk (below_step HB.out hb5)
    have HN5 := Aside0.mk hn5
    have HG5 := Aside0.mk (Kd.C_below g13 hb5)
    have HL5 := Aside0.mk l13
    clear hW5 hw5 hb5 hn5 g13 l13 a0 a1 a2 a3 a4 a5 a6 a7 a8 a9 a10 a11 a12 a13 a14 a15 a16
    as_aux_lemma =>
     obtain ⟨ad2, B13, d13, he2, a0, a1, a2, a3, a4, a5, a6, a7, a8, a9, a10, a11, a12, a13, a14, a15, a16, l13, g13⟩ := at_T74 (Kd.C_below HJ.out HB5.out) (k : Int) (by omega) n2
     have ex : rd_T74 J (k : Int) = J[k]'(by have := HL.out; omega) := by unfold rd_T74; simp [show k < J.length by have := HL.out; omega]
     rw [ex, Int.toNat_natCast] at a0 a1 a2 a3 a4 a5 a6 a7 a8 a9 a10 a11 a12 a13 a14 a15 a16
     rw [ex] at l13 g13
     subst he2
     obtain ⟨y, hy⟩ : ∃ y, y = J[k]'(by have := HL.out; omega) := ⟨_, rfl⟩
     rw [← hy] at a0 a1 a2 a3 a4 a5 a6 a7 a8 a9 a10 a11 a12 a13 a14 a15 a16 l13 g13
     have HY := Aside0.mk hy
     clear ex hy
     go_upto_region 7 with fail
     obtain ⟨W6, hW6⟩ : ∃ W6, W6 = W5.alloc (.cells #[.int .i64 y.f0.f0, .int .i64 y.f0.f1, .int .i64 y.f0.f2, .int .i64 y.f0.f3, .int .i64 y.f0.f4, .int .i64 y.f0.f5, .int .i64 y.f0.f6, .int .i64 y.f0.f7, .int .i64 y.f0.f8, .int .i64 y.f0.f9.f0, .int .i64 y.f0.f9.f1, .int .i64 y.f0.f9.f2, .string y.f0.f10, .slice B13 y.f1.length d13, .int .i64 y.f2, .int .i64 y.f3, .bool y.f4] 74) := ⟨_, rfl⟩
     rw [← hW6]
     have hb6 : Below W5.heap.size W5 W6 := by rw [hW6]; exact below_all5 _
     have hn6 : W6.heap[W5.heap.size]? = some (.cells (encI y (.slice B13 y.f1.length d13)).toArray TI (0, 0)) := by rw [hW6]; exact heap_alloc_new W5 _
     have hn5 := (hb6.block _ (blk_lt HN5.out)).trans HN5.out
     have HB6 := Aside0.mk (below_step HB5.out hb6)
     have hcall := same1_calls x y A13 B13 c13 d13 W6 (Kd.C_below HG5.out hb6) HL5.out (Kd.C_below g13 hb6) l13 (HM.out x (by rw [HX.out]; exact List.getElem_mem hlt))
     obtain ⟨b5, hb5⟩ : ∃ b, b = wr.heap.size := ⟨_, rfl⟩
     obtain ⟨b6, hb6'⟩ : ∃ b, b = W5.heap.size := ⟨_, rfl⟩
     rw [← hb5] at hn5 ⊢
     rw [← hb6'] at hn6 ⊢
     have hrow : sameL sameI I J = (sameI x y && sameL sameI (I.drop (k + 1)) (J.drop (k + 1))) := by rw [HN.out, sameL_drop HL.out hlt, ← HX.out, ← HY.out]
     have HR := Aside0.mk hrow
     clear hrow hb5 hb6' hW6 hb6 g13 l13 HG5 HL5 HN5 a0 a1 a2 a3 a4 a5 a6 a7 a8 a9 a10 a11 a12 a13 a14 a15 a16
     obtain ⟨p0, p1, p2, p3, p4, p5, p6, p7, p8, p9, p10, p11, p12, p13, p14, p15, p16⟩ := item_cells hn5
     obtain ⟨q0, q1, q2, q3, q4, q5, q6, q7, q8, q9, q10, q11, q12, q13, q14, q15, q16⟩ := item_cells hn6
     clear hn5 hn6
     unfold encI at hcall
     as_aux_lemma =>
      cases hs : sameI x y
      ·rw [hs] at hcall HR
       have hV : sameL sameI I J = false := HR.out
       go_wp2_with (go_at_fn 47; refine hcall.mono ?_; rintro e w1 ⟨rfl, hb1⟩)
       go_ret
       exact ⟨by rw [hV]; rfl, below_step HB6.out hb1⟩
      ·rw [hs] at hcall HR
       have hV : sameL sameI I J = sameL sameI (I.drop (k + 1)) (J.drop (k + 1)) := HR.out
       have HV := Aside0.mk hV
       clear hV
       go_wp2_with (go_at_fn 47; refine hcall.mono ?_; rintro e w1 ⟨rfl, hb1⟩)
       go_roundw
       case rel => exact ⟨k + 1, by go_num, by omega, ⟨below_step HB6.out hb1⟩, HV⟩
       case measure => simp [intOf]; omega
   ·have hk' : k = I.length := by omega
    subst hk'
    have hT := HN.out
    rw [sameL_end HL.out] at hT
    go_wp2
    go_ret
    exact ⟨by rw [hT]; rfl, HB.out⟩
 ·rw [sameL_len hl]
  have d0 : ((I.length : Int) != (J.length : Int)) = true := by rw [bne_iff_ne]; omega
  go_enter Try.func46, Try.ntmps46
  go_wp2
  go_ret
  exact ⟨rfl, Below.refl _ _⟩
end Go.Proofs.Ytlfldoghomnbkaa.QVfs
end

section
namespace Go.Proofs.Ytlfldoghomnbkaa.QVfs
open Go.RowKit Go.Proofs.YtlfldoghomnbkaaW.PrintWords Go.Proofs.YtlfldoghomnbkaaW.PrintLast Go.Proofs.YtlfldoghomnbkaaW.PrintMore
set_option linter.unusedVariables false
set_option linter.unusedSimpArgs false
set_option maxHeartbeats 8000000 in
set_option maxRecDepth 100000 in
theorem same_calls (F G : Fs) (g g' : Nat) (w : World) (hF : FsR g F w) (hG : FsR g' G w) (hm : ∀ x ∈ F.I, x.f1.length ≤ 100000) (hD : F.D.length ≤ 100000) :
  Calls Try.prog 23 #[.pointer (some ⟨g, 0, none⟩), .pointer (some ⟨g', 0, none⟩)] w fun e w' => e = .returned (.bool (F.sameB G)) ∧ Below w.heap.size w w' := by
 obtain ⟨A0, c0, A1, c1, A2, c2, hb, l0, l1, h0, h1, h2⟩ := hF
 obtain ⟨B0, d0, B1, d1, B2, d2, hb', m0, m1, k0, k1, k2⟩ := hG
 have HI : Aside0 (∀ W, Below w.heap.size w W → Calls Try.prog 45 #[.slice A1 F.D.length c1, .slice B1 G.D.length d1] W fun e w' => e = .returned (.bool (sameL (fun a b : Int => a == b) F.D G.D)) ∧ Below W.heap.size W w') :=
  ⟨fun W hW => (slices_Equal_int_int.calls (F.D.length + 1) A1 c1 F.D B1 d1 G.D _ W (Kd.C_below h1 hW) l1 (Kd.C_below k1 hW) m1 (equalI_f F.D G.D hD)).mono (by rintro e w' ⟨he, hd⟩; exact ⟨he, hd.below⟩)⟩
 have HE : Aside0 (∀ W, Below w.heap.size w W → Calls Try.prog 46 #[.slice A0 F.I.length c0, .slice B0 G.I.length d0, .func (.func 47) #[] #[]] W fun e w' => e = .returned (.bool (sameL sameI F.I G.I)) ∧ Below W.heap.size W w') :=
  ⟨fun W hW => equalFunc_calls F.I G.I A0 B0 c0 d0 W (Kd.C_below h0 hW) l0 (Kd.C_below k0 hW) m0 hm (Go.Proofs.enters_of Try.func47 (by kernel_rfl) rfl)⟩
 have a0 : w.cell? ⟨g, 0, none⟩ = some (.slice A0 F.I.length c0) := (blk_cell hb 0).trans rfl
 have a1 : w.cell? ⟨g, 1, none⟩ = some (.slice A1 F.D.length c1) := (blk_cell hb 1).trans rfl
 have b0 : w.cell? ⟨g', 0, none⟩ = some (.slice B0 G.I.length d0) := (blk_cell hb' 0).trans rfl
 have b1 : w.cell? ⟨g', 1, none⟩ = some (.slice B1 G.D.length d1) := (blk_cell hb' 1).trans rfl
 have a0x := Ext.cell a0
 have a1x := Ext.cell a1
 have b0x := Ext.cell b0
 have b1x := Ext.cell b1
 obtain ⟨R, hR⟩ : ∃ R, R = F.sameB G := ⟨_, rfl⟩
 rw [← hR]
 unfold Fs.sameB at hR
 have HR := Aside0.mk hR
 clear hR hb hb' l0 l1 h0 h1 h2 m0 m1 k0 k1 k2 hm hD a0 a1 b0 b1
 generalize sameL (fun a b : Int => a == b) F.D G.D = tD at HI HR
 generalize sameL sameI F.I G.I = tI at HE HR
 go_enter Try.func23, Try.ntmps23
 cases tD
 ·have HV : Aside0 (R = false) := Aside0.mk HR.out
  go_upto_region 1 with fail
  refine wp_region_ext (by kernel_rfl) (by kernel_rfl) ?_
  repeat (go_big_quiet_step ((rename_i x; first | exact Ext.call x (HI.out _ x.bel) | exact Ext.call x (HE.out _ x.bel))))
  refine wpQuiet_nil ?_
  rintro _ ⟨⟨w2, hb2⟩, rfl⟩
  go_wp2
  go_ret
  exact ⟨by rw [HV.out]; rfl, hb2⟩
 ·have HV : Aside0 (R = tI) := Aside0.mk HR.out
  go_upto_region 1 with fail
  refine wp_region_ext (by kernel_rfl) (by kernel_rfl) ?_
  repeat (go_big_quiet_step ((rename_i x; first | exact Ext.call x (HI.out _ x.bel) | exact Ext.call x (HE.out _ x.bel))))
  refine wpQuiet_nil ?_
  rintro _ ⟨⟨w2, hb2⟩, rfl⟩
  go_wp2
  go_ret
  exact ⟨by rw [HV.out]; rfl, hb2⟩
end Go.Proofs.Ytlfldoghomnbkaa.QVfs
end

section
namespace Go.Proofs.Ytlfldoghomnbkaa.QVfs
open Go.RowKit Go.Proofs.YtlfldoghomnbkaaW.PrintWords Go.Proofs.YtlfldoghomnbkaaW.PrintLast Go.Proofs.YtlfldoghomnbkaaW.PrintMore
set_option linter.unusedVariables false
set_option linter.unusedSimpArgs false
theorem eqE_refl (x : Entry) : eqE x x = true := by unfold eqE; simp
theorem eqNode_refl (x : Node) : eqNode x x = true := by unfold eqNode; simp
theorem sameI_refl (x : Item) : sameI x x = true := by unfold sameI; rw [eqNode_refl, sameL_refl eqE_refl]; simp
theorem Fs.sameB_refl (F : Fs) : F.sameB F = true := by unfold Fs.sameB; rw [sameL_refl (fun x => by simp), sameL_refl sameI_refl]; rfl
theorem sameL_at {α : Type} {p : α → α → Bool} : ∀ {a b : List α}, sameL p a b = true → ∀ (i : Nat) (ha : i < a.length) (hb : i < b.length), p a[i] b[i] = true
 | [], _, _, i, ha, _ => absurd ha (Nat.not_lt_zero _)
 | _ :: _, [], _, i, _, hb => absurd hb (Nat.not_lt_zero _)
 | x :: a, y :: b, h, 0, _, _ => by
  rw [sameL, Bool.and_eq_true] at h
  exact h.1
 | x :: a, y :: b, h, i + 1, ha, hb => by
  rw [sameL, Bool.and_eq_true] at h
  exact sameL_at h.2 i (by simpa using ha) (by simpa using hb)
theorem Fs.sameB_len {F G : Fs} (h : F.I.length ≠ G.I.length) : F.sameB G = false := by
 unfold Fs.sameB; rw [sameL_len h, Bool.and_false]
theorem Fs.put_len (F : Fs) (a : Nat) (name : ByteArray) (id : Nat) : (F.put a name id).I.length = F.I.length := by
 obtain ⟨b, e⟩ := F.put_setI a name id
 rw [e, Fs.len_setI, Fs.len_setI]
theorem Fs.put_ents (F : Fs) (a : Nat) (name : ByteArray) (id : Nat) (ha : a < F.I.length) : ((F.put a name id).at a).f1.length = (F.at a).f1.length + 1 := by
 obtain ⟨b, e⟩ := F.put_setI a name id
 have hl : a < (F.setI a ⟨(F.at a).f0, (F.at a).f1 ++ [⟨name, id⟩], (F.at a).f2, (F.at a).f3, (F.at a).f4⟩).I.length := by rw [Fs.len_setI]; exact ha
 have h1 : (F.setI a ⟨(F.at a).f0, (F.at a).f1 ++ [⟨name, id⟩], (F.at a).f2, (F.at a).f3, (F.at a).f4⟩).at a = ⟨(F.at a).f0, (F.at a).f1 ++ [⟨name, id⟩], (F.at a).f2, (F.at a).f3, (F.at a).f4⟩ := by
  rw [Fs.at_setI F a a _ ha, if_pos rfl]
 rw [e, Fs.at_setI _ b a _ hl]
 by_cases c : b = a
 ·subst c
  rw [if_pos rfl]
  show ((F.setI b _).at b).f1.length = _
  rw [h1]; simp
 ·rw [if_neg c, h1]; simp
theorem Fs.at_get (F : Fs) (i : Nat) (h : i < F.I.length) : F.at i = F.I[i] := by
 unfold Fs.at; rw [List.getD_eq_getElem?_getD, List.getElem?_eq_getElem h]; rfl
theorem Fs.sameB_more {F : Fs} {c : Chg} (e0 : F.doE c = 0) (hk : c.f0 < 4 ∨ c.f0 = 7) : F.sameB (F.doF c) = false := by
 unfold Fs.doF
 rw [if_neg (by omega)]
 by_cases c2 : c.f0 = 2
 ·rw [if_pos c2]
  unfold Fs.doE at e0
  rw [if_neg (by omega), if_pos (by omega)] at e0
  have hw : F.wrongE c = 0 := by
   by_cases hw : F.wrongE c = 0
   ·exact hw
   ·rw [if_neg hw] at e0; exact absurd e0 hw
  have ha := Fs.wrong_at hw
  have hal : c.f1.toNat < F.I.length := by omega
  cases hs : F.sameB (F.put c.f1.toNat c.f3 c.f2.toNat) with
  | false => rfl
  | true =>
   exfalso
   unfold Fs.sameB at hs
   rw [Bool.and_eq_true] at hs
   have hl : c.f1.toNat < (F.put c.f1.toNat c.f3 c.f2.toNat).I.length := by rw [Fs.put_len]; exact hal
   have h1 := sameL_at hs.2 c.f1.toNat hal hl
   rw [← Fs.at_get F _ hal, ← Fs.at_get _ _ hl] at h1
   unfold sameI at h1
   rw [Bool.and_eq_true, Bool.and_eq_true, Bool.and_eq_true, Bool.and_eq_true] at h1
   have h2 := h1.2.2.2.2
   have h3 := Fs.put_ents F c.f1.toNat c.f3 c.f2.toNat hal
   rw [sameL_len (by omega)] at h2
   cases h2
 rw [if_neg c2]
 by_cases c4 : c.f0 < 4
 ·rw [if_pos c4]
  apply Fs.sameB_len
  rw [Fs.put_len, Fs.make_len]; omega
 ·rw [if_neg c4, if_neg (by omega), if_neg (by omega), if_neg (by omega), if_pos (by omega)]
  apply Fs.sameB_len
  rw [Fs.len_setI]
  have : (F.device c.f5 (F.it c.f2).f2).I.length = F.I.length + 1 := Fs.make_len ⟨F.I, F.D, F.C ++ [0]⟩ _ _
  omega
end Go.Proofs.Ytlfldoghomnbkaa.QVfs
end
