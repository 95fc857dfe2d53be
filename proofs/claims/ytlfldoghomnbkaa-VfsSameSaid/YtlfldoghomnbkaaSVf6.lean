import Derived.Test.YtlfldoghomnbkaaSXVf3
import Derived.Test.YtlfldoghomnbkaaSXVf4
import Derived.Test.YtlfldoghomnbkaaSXGood
import Derived.Deep.RegionHeld3
import Derived.Deep.RegionWith
import Derived.Shelf.Abstract
import Derived.Test.YtlfldoghomnbkaaSXVf5
-- Texts of this seat, what the claim does not reach struck out by a program.
section
namespace Go.Proofs.Ytlfldoghomnbkaa.QVfs
open Go.RowKit Go.Proofs.YtlfldoghomnbkaaW.PrintWords Go.Proofs.YtlfldoghomnbkaaW.PrintLast Go.Proofs.YtlfldoghomnbkaaW.PrintMore
set_option linter.unusedVariables false
set_option linter.unusedSimpArgs false
def Idx {α : Type} (p : α → Bool) (l : List α) (r : Int) : Prop :=
 (∃ k : Nat, ∃ h : k < l.length, r = (k : Int) ∧ p l[k] = true ∧ ∀ j (hj : j < k), p (l[j]'(by omega)) = false) ∨ (r = -1 ∧ ∀ x ∈ l, p x = false)
def IdxPost {α : Type} (p : α → Bool) (l : List α) (w : World) (e : Ending) (w' : World) : Prop := ∃ r, e = .returned (.int .i64 r) ∧ Idx p l r ∧ Below w.heap.size w w'
def NoneB {α : Type} (p : α → Bool) (l : List α) (k : Nat) : Prop := ∀ j (h : j < l.length), j < k → p l[j] = false
set_option maxHeartbeats 2000000 in
theorem indexFunc_ent (g : Nat) (lb : Array Value) (p : Entry → Bool) (w : World) (A : Option Addr) (c : Nat) (l : List Entry) (hC : Kd.C k61 w A l.length l) (hc : l.length ≤ c)
  (eg : ∀ args w, (callFunc g args).run Try.prog w = .ok (.enter g args) w)
  (hf : ∀ (x : Entry) (W : World), Below w.heap.size w W → Calls Try.prog g (#[.agg #[.string x.f0, .int .i64 x.f1]] ++ lb) W fun e w' => e = .returned (.bool (p x)) ∧ Below W.heap.size W w') :
  Calls Try.prog 69 #[.slice A l.length c, .func (.func g) #[] lb] w (IdxPost p l w) := by
 have hm := Kd.C_max hC
 have A1 := Aside0.mk hC
 have A2 := Aside0.mk hf
 clear hC hf
 go_enter Try.func69, Try.ntmps69
 go_wp2
 go_loopw [8] (fun v8 wr => ∃ k : Nat, v8 = .int .i64 k ∧ k ≤ l.length ∧ Aside0 (Below w.heap.size w wr) ∧ Aside0 (NoneB p l k)) (fun v8 _ => l.length - (intOf v8).toNat)
 case atStart => exact ⟨0, rfl, Nat.zero_le _, ⟨Below.refl _ _⟩, ⟨fun j h h' => by omega⟩⟩
 case round =>
  obtain ⟨k, rfl, hk, HB, HN⟩ := hrel
  by_cases hlt : k < l.length
  ·obtain ⟨ad, he, k0, k1⟩ := at_T61 (Kd.C_below A1.out HB.out) (k : Int) (by omega) (by omega)
   have ex : rd_T61 l (k : Int) = l[k] := by unfold rd_T61; simp [hlt]
   rw [ex, Int.toNat_natCast] at k0 k1
   have hcall := A2.out l[k] wr HB.out
   have n1 : (k : Int) < (l.length : Int) := by omega
   subst he
   cases hp : p l[k]
   ·rw [hp] at hcall
    go_wp2_with (go_at_fn g; refine hcall.mono ?_; rintro e w1 ⟨rfl, hb1⟩)
    go_roundw
    case rel => exact ⟨k + 1, by go_num, by omega, ⟨below_step HB.out hb1⟩, ⟨fun j h h' => by
     rcases Nat.lt_or_ge j k with h2 | h2
     ·exact HN.out j h h2
     ·obtain rfl : j = k := by omega
      exact hp⟩⟩
    case measure => simp [intOf]; omega
   ·rw [hp] at hcall
    go_wp2_with (go_at_fn g; refine hcall.mono ?_; rintro e w1 ⟨rfl, hb1⟩)
    go_ret
    exact ⟨_, rfl, .inl ⟨k, hlt, rfl, hp, fun j hj => HN.out j (by omega) hj⟩, below_step HB.out hb1⟩
  ·go_wp2
   go_ret
   refine ⟨_, rfl, .inr ⟨rfl, fun x hx => ?_⟩, HB.out⟩
   obtain ⟨j, hj, rfl⟩ := List.getElem_of_mem hx
   exact HN.out j hj (by omega)
def AnyPost {α : Type} (p : α → Bool) (l : List α) (w : World) (e : Ending) (w' : World) : Prop := e = .returned (.bool (l.any p)) ∧ Below w.heap.size w w'
theorem Idx.any {α : Type} {p : α → Bool} {l : List α} {r : Int} (h : Idx p l r) : l.any p = decide (0 ≤ r) := by
 rcases h with ⟨k, hk, rfl, hp, _⟩ | ⟨rfl, hn⟩
 ·rw [decide_eq_true (by omega), List.any_eq_true]
  exact ⟨_, List.getElem_mem hk, hp⟩
 ·rw [decide_eq_false (by omega), List.any_eq_false]
  intro x hx; rw [hn x hx]; decide
set_option maxHeartbeats 2000000 in
theorem containsFunc_ent (g : Nat) (lb : Array Value) (p : Entry → Bool) (w : World) (A : Option Addr) (c : Nat) (l : List Entry) (hC : Kd.C k61 w A l.length l) (hc : l.length ≤ c)
  (eg : ∀ args w, (callFunc g args).run Try.prog w = .ok (.enter g args) w)
  (hf : ∀ (x : Entry) (W : World), Below w.heap.size w W → Calls Try.prog g (#[.agg #[.string x.f0, .int .i64 x.f1]] ++ lb) W fun e w' => e = .returned (.bool (p x)) ∧ Below W.heap.size W w') :
  Calls Try.prog 61 #[.slice A l.length c, .func (.func g) #[] lb] w (AnyPost p l w) := by
 have cI := indexFunc_ent g lb p w A c l hC hc eg hf
 clear hC hf eg
 go_enter Try.func61, Try.ntmps61
 go_wp2_with (go_at_call 69; refine cI.mono ?_; rintro e w' ⟨r, rfl, hi, hb⟩)
 have he := hi.any
 go_ret
 unfold AnyPost
 rw [he]
 exact ⟨rfl, hb⟩
def namedB (name : ByteArray) (x : Entry) : Bool := x.f0.toList == name.toList
set_option maxHeartbeats 1000000 in
theorem closure_calls (g : Nat) (name : ByteArray) (x : Entry) (W : World) (hc : W.cell? ⟨g, 3, none⟩ = some (.string name)) :
  Calls Try.prog 62 (#[.agg #[.string x.f0, .int .i64 x.f1]] ++ #[.pointer (some ⟨g, 0, none⟩)]) W fun e w' => e = .returned (.bool (namedB name x)) ∧ Below W.heap.size W w' := by
 show Calls Try.prog 62 #[.agg #[.string x.f0, .int .i64 x.f1], .pointer (some ⟨g, 0, none⟩)] W _
 have hlt : g < W.heap.size := World.block_lt_of_cell? W _ hc
 have hb := below_alloc (Below.refl _ W) (Obj.cells #[.string x.f0, .int .i64 x.f1] TE)
 have hc2 := pw_cell_below hb hc
 unfold namedB
 go_enter Try.func62, Try.ntmps62
 go_wp2
 go_ret
 exact ⟨rfl, hb⟩
def Fs.placeE (F : Fs) (c : Chg) : Int := if F.dirE c.f1 = 0 then (if goodB c.f3 = true then (if (F.it c.f1).f1.any (namedB c.f3) = true then 4 else 0) else 1) else F.dirE c.f1
set_option maxHeartbeats 4000000 in
set_option maxRecDepth 100000 in
theorem place_calls (g : Nat) (F : Fs) (c : Chg) (w : World) (h : FsR g F w) (hs : c.f3.size ≤ 1000000) :
  Calls Try.prog 52 #[.pointer (some ⟨g, 0, none⟩), .agg (encC c).toArray] w fun e w' => e = .returned (.int .i64 (F.placeE c)) ∧ Below w.heap.size w w' := by
 obtain ⟨x0, x1, x2, x3, x4, x5, x6, x7⟩ := c
 simp only at hs
 obtain ⟨W, hW⟩ : ∃ W : World, W = w.alloc (.cells #[.int .i64 x0, .int .i64 x1, .int .i64 x2, .string x3, .string x4, .int .i64 x5, .int .i64 x6, .int .i64 x7] TC) := ⟨_, rfl⟩
 have hB : Below w.heap.size w W := by rw [hW]; exact (Below.refl _ w).alloc (Nat.le_refl _) _
 have b0 : W.heap[w.heap.size]? = some (.cells #[.int .i64 x0, .int .i64 x1, .int .i64 x2, .string x3, .string x4, .int .i64 x5, .int .i64 x6, .int .i64 x7] TC (0, 0)) := by rw [hW]; exact heap_alloc_new w _
 have hRW := h.below hB
 have HR := Aside0.mk hRW
 have k1 : W.cell? ⟨w.heap.size, 1, none⟩ = some (.int .i64 x1) := (blk_cell b0 1).trans rfl
 have k3 : W.cell? ⟨w.heap.size, 3, none⟩ = some (.string x3) := (blk_cell b0 3).trans rfl
 have HW := Aside0.mk hW
 have HB := Aside0.mk hB
 clear hB b0 h
 show Calls _ _ _ _ fun e w' => e = .returned (.int .i64 (if F.dirE x1 = 0 then (if goodB x3 = true then (if (F.it x1).f1.any (namedB x3) = true then 4 else 0) else 1) else F.dirE x1)) ∧ Below w.heap.size w w'
 unfold encC
 by_cases gg : F.dirE x1 = 0
 ·rw [if_pos gg]
  have cD := fun W' hh => dir_calls g F x1 W' hh
  rw [gg] at cD
  obtain ⟨⟨g0, g1⟩, _⟩ := Fs.dirE_zero gg
  clear gg
  cases hg : goodB x3 with
  | false =>
   rw [if_neg (by simp)]
   go_enter Try.func52, Try.ntmps52
   go_wp2_with fail
   rw [← hW]
   clear hW
   refine (cD W HR.out).mono ?_
   rintro e w1 ⟨rfl, rfl⟩
   go_wp2_with (go_at_call 9; refine (good_calls x3 W hs).mono ?_; rw [hg]; rintro e w2 ⟨rfl, hb2⟩)
   go_ret
   exact ⟨rfl, below_step HB.out hb2⟩
  | true =>
   rw [if_pos rfl]
   have fin : ∀ b : Bool, (F.it x1).f1.any (namedB x3) = b → Calls Try.prog 52 #[.pointer (some ⟨g, 0, none⟩), .agg #[.int .i64 x0, .int .i64 x1, .int .i64 x2, .string x3, .string x4, .int .i64 x5, .int .i64 x6, .int .i64 x7]] w fun e w' => e = .returned (.int .i64 (if b = true then 4 else 0)) ∧ Below w.heap.size w w' := by
    intro b ha
    go_enter Try.func52, Try.ntmps52
    go_wp2_with fail
    rw [← hW]
    clear hW
    refine (cD W HR.out).mono ?_
    rintro e w1 ⟨rfl, rfl⟩
    go_wp2_with (go_at_call 9; refine (good_calls x3 W hs).mono ?_; rw [hg]; rintro e w2 ⟨rfl, hb2⟩)
    obtain ⟨A0, c0, A1, c1, A2, c2, hb, l0, l1, h1, h2, h3⟩ := FsR.below HR.out hb2
    have k0 : w2.cell? ⟨g, 0, none⟩ = some (.slice A0 F.I.length c0) := (blk_cell hb 0).trans rfl
    obtain ⟨ad, A13, c13, rfl, q⟩ := at_T74 h1 x1 g0 g1
    have q13 := q.2.2.2.2.2.2.2.2.2.2.2.2.2.1
    have qC := q.2.2.2.2.2.2.2.2.2.2.2.2.2.2.2.2.2
    replace k1 := pw_cell_below hb2 k1
    replace k3 := pw_cell_below hb2 k3
    have cF := fun (W' : World) (hB' : Below w2.heap.size w2 W') => (containsFunc_ent 62 #[.pointer (some ⟨w.heap.size, 0, none⟩)] (namedB x3) W' A13 c13 (F.it x1).f1 (Kd.C_below qC.2 hB') qC.1 (Go.Proofs.enters_of Try.func62 (by kernel_rfl) rfl) (fun x W2 hb => closure_calls w.heap.size x3 x W2 (pw_cell_below hb (pw_cell_below hB' k3)))).mono (fun e w' (h : e = .returned (.bool ((F.it x1).f1.any (namedB x3))) ∧ Below W'.heap.size W' w') => (⟨by rw [← ha]; exact h.1, h.2⟩ : e = .returned (.bool b) ∧ Below W'.heap.size W' w'))
    have HB2 := Aside0.mk (below_step HB.out hb2)
    have HF := Aside0.mk cF
    clear q qC h1 h2 h3 hb hb2 k3 cF cD hRW ha
    go_region_with ((go_at_call 61; refine (HF.out _ (below_drew (Below.refl _ _))).mono ?_; rintro e w3 ⟨rfl, hb3⟩))
    all_goals
     cases b
     ·go_wp2
      go_ret
      exact ⟨rfl, below_step HB2.out (below_step (below_drew (Below.refl _ _)) hb3)⟩
     ·go_wp2
      go_ret
      exact ⟨rfl, below_step HB2.out (below_step (below_drew (Below.refl _ _)) hb3)⟩
   exact fin _ rfl
 ·rw [if_neg gg]
  have b1 : (F.dirE x1 != 0) = true := by rw [bne_iff_ne]; exact gg
  clear gg
  have cD := fun W' hh => dir_calls g F x1 W' hh
  generalize F.dirE x1 = y at *
  go_enter Try.func52, Try.ntmps52
  go_wp2_with fail
  rw [← hW]
  clear hW
  refine (cD W HR.out).mono ?_
  rintro e w1 ⟨rfl, rfl⟩
  go_wp2
  go_ret
  exact ⟨rfl, HB.out⟩
end Go.Proofs.Ytlfldoghomnbkaa.QVfs
end

section
namespace Go.Proofs.Ytlfldoghomnbkaa.QVfs
open Go.RowKit Go.Proofs.YtlfldoghomnbkaaW.PrintWords Go.Proofs.YtlfldoghomnbkaaW.PrintLast Go.Proofs.YtlfldoghomnbkaaW.PrintMore
set_option linter.unusedVariables false
set_option linter.unusedSimpArgs false
def has0 (s : ByteArray) : Bool := decide (0 ≤ Lib.indexByte s.data.toList 0)
theorem contains_calls (s : ByteArray) (w : World) : Calls Try.prog 63 #[.string s, .string ⟨#[0]⟩] w fun e w' => e = .returned (.bool (has0 s)) ∧ w' = w := Try.strings_Contains_one s 0 w
def Fs.fitsE (F : Fs) (c : Chg) : Int :=
 if c.f0 = 1 then (if c.f7 < 0 then 1 else 0)
 else if c.f0 = 2 then (if F.has c.f2 = true then (if (F.it c.f2).f0.f2 = 2 then 1 else if (F.it c.f2).f0.f0 = (F.it c.f1).f0.f0 then 0 else 1) else 2)
 else if c.f0 = 3 then (if c.f4.toList = [] then 1 else if (4096 : Int) < c.f4.size then 1 else if has0 c.f4 = true then 1 else 0)
 else 0
set_option maxHeartbeats 4000000 in
set_option maxRecDepth 100000 in
theorem fits_calls (g : Nat) (F : Fs) (c : Chg) (w : World) (h : FsR g F w) (ha : 0 ≤ c.f1 ∧ c.f1 < F.I.length) :
  Calls Try.prog 53 #[.pointer (some ⟨g, 0, none⟩), .agg (encC c).toArray] w fun e w' => e = .returned (.int .i64 (F.fitsE c)) ∧ Below w.heap.size w w' := by
 obtain ⟨x0, x1, x2, x3, x4, x5, x6, x7⟩ := c
 simp only at ha
 show Calls _ _ _ _ fun e w' => e = .returned (.int .i64 (if x0 = 1 then (if x7 < 0 then 1 else 0)
 else if x0 = 2 then (if F.has x2 = true then (if (F.it x2).f0.f2 = 2 then 1 else if (F.it x2).f0.f0 = (F.it x1).f0.f0 then 0 else 1) else 2)
 else if x0 = 3 then (if x4.toList = [] then 1 else if (4096 : Int) < x4.size then 1 else if has0 x4 = true then 1 else 0)
 else 0)) ∧ Below w.heap.size w w'
 have hB : Below w.heap.size w (w.alloc (.cells #[.int .i64 x0, .int .i64 x1, .int .i64 x2, .string x3, .string x4, .int .i64 x5, .int .i64 x6, .int .i64 x7] TC)) := (Below.refl _ w).alloc (Nat.le_refl _) _
 unfold encC
 by_cases c1 : x0 = 1
 ·rw [if_pos c1]
  subst c1
  by_cases c2 : x7 < 0
  ·rw [if_pos c2]
   have b2 : decide (x7 < 0) = true := decide_eq_true c2
   clear h ha
   go_enter Try.func53, Try.ntmps53
   go_wp2
   go_ret
   exact ⟨rfl, hB⟩
  ·rw [if_neg c2]
   have b2 : decide (x7 < 0) = false := decide_eq_false c2
   clear h ha
   go_enter Try.func53, Try.ntmps53
   go_wp2
   go_ret
   exact ⟨rfl, hB⟩
 rw [if_neg c1]
 have b1 : (x0 == 1) = false := beq_eq_false_iff_ne.2 c1
 clear c1
 by_cases c2 : x0 = 2
 ·rw [if_pos c2]
  subst c2
  clear b1
  obtain ⟨W, hW⟩ : ∃ W : World, W = w.alloc (.cells #[.int .i64 2, .int .i64 x1, .int .i64 x2, .string x3, .string x4, .int .i64 x5, .int .i64 x6, .int .i64 x7] TC) := ⟨_, rfl⟩
  have b0 : W.heap[w.heap.size]? = some (.cells #[.int .i64 2, .int .i64 x1, .int .i64 x2, .string x3, .string x4, .int .i64 x5, .int .i64 x6, .int .i64 x7] TC (0, 0)) := by rw [hW]; exact heap_alloc_new w _
  have HB : Aside0 (Below w.heap.size w W) := ⟨by rw [hW]; exact hB⟩
  have HR := Aside0.mk (h.below HB.out)
  have k1 : W.cell? ⟨w.heap.size, 1, none⟩ = some (.int .i64 x1) := (blk_cell b0 1).trans rfl
  have k2 : W.cell? ⟨w.heap.size, 2, none⟩ = some (.int .i64 x2) := (blk_cell b0 2).trans rfl
  obtain ⟨A0, c0, A1, cc1, A2, cc2, hb, l0, l1, h1, h2, h3⟩ := HR.out
  have k0 : W.cell? ⟨g, 0, none⟩ = some (.slice A0 F.I.length c0) := (blk_cell hb 0).trans rfl
  obtain ⟨ad, A13, c13, hA0, qa0, _⟩ := at_T74 h1 x1 ha.1 ha.2
  subst hA0
  clear hb b0 h hB
  have cI := fun W' hh => is_calls g F x2 W' hh
  by_cases gg : 0 ≤ x2 ∧ x2 < F.I.length
  ·have hh := Fs.has_yes gg.1 gg.2
   rw [hh, if_pos rfl]
   rw [hh] at cI
   obtain ⟨ad', A13', c13', hA0', qb0, _, qb2, _⟩ := at_T74 h1 x2 gg.1 gg.2
   obtain rfl : ad = ad' := by simpa using hA0'
   clear hA0' h1 h2 h3 hh
   obtain ⟨g0, g1⟩ := gg
   obtain ⟨a0, a1⟩ := ha
   show Calls _ _ _ _ fun e w' => e = .returned (.int .i64 (if (rd_T74 F.I x2).f0.f2 = 2 then 1 else if (rd_T74 F.I x2).f0.f0 = (rd_T74 F.I x1).f0.f0 then 0 else 1)) ∧ Below w.heap.size w w'
   generalize (rd_T74 F.I x2).f0.f2 = kd at *
   generalize (rd_T74 F.I x2).f0.f0 = d2 at *
   generalize (rd_T74 F.I x1).f0.f0 = d1 at *
   by_cases e1 : kd = 2
   ·rw [if_pos e1]
    have b2 : (kd == 2) = true := beq_iff_eq.2 e1
    clear e1
    go_enter Try.func53, Try.ntmps53
    go_wp2_with fail
    rw [← hW]
    clear hW
    refine (cI W HR.out).mono ?_
    rintro e w1 ⟨rfl, rfl⟩
    go_wp2
    go_quiet (fail)
    go_wp2
    go_ret
    exact ⟨rfl, below_step HB.out (pw_below_drewN (Below.refl _ _) _)⟩
   ·rw [if_neg e1]
    have b2 : (kd == 2) = false := beq_eq_false_iff_ne.2 e1
    clear e1
    by_cases e2 : d2 = d1
    ·rw [if_pos e2]
     have b3 : (d2 != d1) = false := by rw [e2]; exact bne_self_eq_false d1
     clear e2
     go_enter Try.func53, Try.ntmps53
     go_wp2_with fail
     rw [← hW]
     clear hW
     refine (cI W HR.out).mono ?_
     rintro e w1 ⟨rfl, rfl⟩
     go_wp2
     go_quiet (fail)
     go_wp2
     go_ret
     exact ⟨rfl, below_step HB.out (pw_below_drewN (Below.refl _ _) _)⟩
    ·rw [if_neg e2]
     have b3 : (d2 != d1) = true := by rw [bne_iff_ne]; exact e2
     clear e2
     go_enter Try.func53, Try.ntmps53
     go_wp2_with fail
     rw [← hW]
     clear hW
     refine (cI W HR.out).mono ?_
     rintro e w1 ⟨rfl, rfl⟩
     go_wp2
     go_quiet (fail)
     go_wp2
     go_ret
     exact ⟨rfl, below_step HB.out (pw_below_drewN (Below.refl _ _) _)⟩
  ·have hh := Fs.has_no gg
   rw [hh, if_neg (by simp)]
   rw [hh] at cI
   clear h1 h2 h3 hh gg
   go_enter Try.func53, Try.ntmps53
   go_wp2_with fail
   rw [← hW]
   clear hW
   refine (cI W HR.out).mono ?_
   rintro e w1 ⟨rfl, rfl⟩
   go_wp2
   go_ret
   exact ⟨rfl, HB.out⟩
 rw [if_neg c2]
 have b2 : (x0 == 2) = false := beq_eq_false_iff_ne.2 c2
 clear c2 h ha
 by_cases c3 : x0 = 3
 ·rw [if_pos c3]
  subst c3
  clear b1 b2
  by_cases c4 : x4.toList = []
  ·rw [if_pos c4]
   have b4 : (x4.toList == []) = true := by rw [c4]; rfl
   go_enter Try.func53, Try.ntmps53
   go_wp2
   go_ret
   exact ⟨rfl, hB⟩
  ·rw [if_neg c4]
   have b4 : (x4.toList == []) = false := beq_eq_false_iff_ne.2 c4
   have b5 : x4.toList.isEmpty = false := by cases hx : x4.toList <;> simp_all
   clear c4
   by_cases c5 : (4096 : Int) < x4.size
   ·rw [if_pos c5]
    have b6 : decide ((4096 : Int) < (x4.size : Int)) = true := decide_eq_true c5
    go_enter Try.func53, Try.ntmps53
    go_wp2
    go_ret
    exact ⟨rfl, hB⟩
   ·rw [if_neg c5]
    have b6 : decide ((4096 : Int) < (x4.size : Int)) = false := decide_eq_false c5
    have cC := fun W => contains_calls x4 W
    clear c5
    cases hc : has0 x4 with
    | true =>
     rw [hc] at cC
     rw [if_pos rfl]
     go_enter Try.func53, Try.ntmps53
     go_wp2_with (go_at_call 63; refine (cC _).mono ?_; rintro e w' ⟨rfl, rfl⟩)
     go_ret
     exact ⟨rfl, hB⟩
    | false =>
     rw [hc] at cC
     rw [if_neg (by simp)]
     go_enter Try.func53, Try.ntmps53
     go_wp2_with (go_at_call 63; refine (cC _).mono ?_; rintro e w' ⟨rfl, rfl⟩)
     go_ret
     exact ⟨rfl, hB⟩
 ·rw [if_neg c3]
  have b3 : (x0 == 3) = false := beq_eq_false_iff_ne.2 c3
  clear c3
  go_enter Try.func53, Try.ntmps53
  go_wp2
  go_ret
  exact ⟨rfl, hB⟩
end Go.Proofs.Ytlfldoghomnbkaa.QVfs
end

section
namespace Go.Proofs.Ytlfldoghomnbkaa.QVfs
open Go.RowKit Go.Proofs.YtlfldoghomnbkaaW.PrintWords Go.Proofs.YtlfldoghomnbkaaW.PrintLast Go.Proofs.YtlfldoghomnbkaaW.PrintMore
set_option linter.unusedVariables false
set_option linter.unusedSimpArgs false
theorem FsAt.read {base g : Nat} {ok : Nat → Prop} {F : Fs} {w : World} (h : FsAt base g ok F w) : FsR g F w := by
 obtain ⟨v1, v2, v3, es, hF, _⟩ := h
 exact hF.read
theorem FsAt.tight {base g : Nat} {ok : Nat → Prop} {F : Fs} {w : World} (h : FsAt base g ok F w) : FsAt base g (fun k => ok k ∧ k < w.heap.size) F w := by
 obtain ⟨v1, v2, v3, es, hF, hok⟩ := h
 exact ⟨v1, v2, v3, es, hF, fun k hk => ⟨hok k hk, hF.lt k hk⟩⟩
theorem box_cells {W : World} {b : Nat} {x0 x1 x2 x5 x6 x7 : Int} {x3 x4 : ByteArray} (h : W.heap[b]? = some (.cells #[.int .i64 x0, .int .i64 x1, .int .i64 x2, .string x3, .string x4, .int .i64 x5, .int .i64 x6, .int .i64 x7] TC (0, 0))) :
  W.cell? ⟨b, 0, none⟩ = some (.int .i64 x0) ∧ W.cell? ⟨b, 1, none⟩ = some (.int .i64 x1) ∧ W.cell? ⟨b, 2, none⟩ = some (.int .i64 x2) ∧ W.cell? ⟨b, 3, none⟩ = some (.string x3) ∧ W.cell? ⟨b, 4, none⟩ = some (.string x4) ∧ W.cell? ⟨b, 5, none⟩ = some (.int .i64 x5) ∧ W.cell? ⟨b, 6, none⟩ = some (.int .i64 x6) ∧ W.cell? ⟨b, 7, none⟩ = some (.int .i64 x7) :=
 ⟨(blk_cell h 0).trans rfl, (blk_cell h 1).trans rfl, (blk_cell h 2).trans rfl, (blk_cell h 3).trans rfl, (blk_cell h 4).trans rfl, (blk_cell h 5).trans rfl, (blk_cell h 6).trans rfl, (blk_cell h 7).trans rfl⟩
def Fs.wrongE (F : Fs) (c : Chg) : Int := if F.placeE c = 0 then F.fitsE c else F.placeE c
def fileN (dev mode n : Int) : Node := ⟨dev, 0, 1, Go.bits .and .i64 mode 4095, 0, 0, n, 8 * (n / 4096 + min (n % 4096) 1), 0, ⟨0, 0, 0⟩, ⟨#[]⟩⟩
def linkN (dev : Int) (t : ByteArray) : Node := ⟨dev, 0, 3, 511, 0, 0, (t.size : Int), 0, 0, ⟨0, 0, 0⟩, t⟩
def newN (dev : Int) (c : Chg) : Node := if c.f0 = 1 then fileN dev c.f5 c.f7 else if c.f0 = 3 then linkN dev c.f4 else dirN dev c.f5
def newUp (c : Chg) : Int := if c.f0 = 0 then c.f1 else -1
theorem Fs.placeE_zero {F : Fs} {c : Chg} (h : F.placeE c = 0) : F.dirE c.f1 = 0 := by
 unfold Fs.placeE at h
 split at h
 ·assumption
 ·exact h
theorem Fs.fitsE_two {F : Fs} {c : Chg} (h : F.fitsE c = 0) (h2 : c.f0 = 2) : 0 ≤ c.f2 ∧ c.f2 < F.I.length := by
 unfold Fs.fitsE at h
 rw [if_neg (by omega), if_pos h2] at h
 split at h
 ·rename_i hh; exact of_decide_eq_true hh
 ·cases h
theorem Fs.fitsE_one {F : Fs} {c : Chg} (h : F.fitsE c = 0) (h2 : c.f0 = 1) : 0 ≤ c.f7 := by
 unfold Fs.fitsE at h
 rw [if_pos h2] at h
 split at h
 ·cases h
 ·omega
set_option maxHeartbeats 4000000 in
set_option maxRecDepth 100000 in
theorem entry_wrong (base g : Nat) (ok : Nat → Prop) (F : Fs) (c : Chg) (w : World) (h : FsAt base g ok F w) (hs : c.f3.size ≤ 1000000) (hw : F.wrongE c ≠ 0) :
  Calls Try.prog 26 #[.pointer (some ⟨g, 0, none⟩), .agg (encC c).toArray] w fun e w' => e = .returned (.tuple #[.int .i64 0, .int .i64 (F.wrongE c)]) ∧ Below w.heap.size w w' := by
 have cP := fun W' hh => place_calls g F c W' hh hs
 have cT := fun W' hh ha => fits_calls g F c W' hh ha
 unfold Fs.wrongE at hw ⊢
 by_cases g0 : F.placeE c = 0
 ·have hd := Fs.placeE_zero g0
  rw [if_pos g0] at hw ⊢
  rw [g0] at cP
  have ha := (Fs.dirE_zero hd).1
  clear g0 hd
  have b1 : (F.fitsE c == 0) = false := beq_eq_false_iff_ne.2 hw
  have b2 : (F.fitsE c != 0) = true := by rw [bne_iff_ne]; exact hw
  clear hw
  generalize F.fitsE c = y at *
  obtain ⟨x0, x1, x2, x3, x4, x5, x6, x7⟩ := c
  obtain ⟨W, hW⟩ : ∃ W : World, W = w.alloc (.cells #[.int .i64 x0, .int .i64 x1, .int .i64 x2, .string x3, .string x4, .int .i64 x5, .int .i64 x6, .int .i64 x7] TC) := ⟨_, rfl⟩
  have hB : Below w.heap.size w W := by rw [hW]; exact (Below.refl _ w).alloc (Nat.le_refl _) _
  have b0 : W.heap[w.heap.size]? = some (.cells #[.int .i64 x0, .int .i64 x1, .int .i64 x2, .string x3, .string x4, .int .i64 x5, .int .i64 x6, .int .i64 x7] TC (0, 0)) := by rw [hW]; exact heap_alloc_new w _
  have HR := Aside0.mk (h.read.below hB)
  have hlt : w.heap.size < W.heap.size := by rw [hW]; simp
  have HB := Aside0.mk hB
  have HB0 := Aside0.mk b0
  unfold encC at cP cT ⊢
  clear hB b0 h
  go_enter Try.func26, Try.ntmps26
  go_wp2_with fail
  rw [← hW]
  clear hW
  refine (cP W HR.out).mono ?_
  rintro e w1 ⟨rfl, hb1⟩
  have b1' := (hb1.block _ hlt).trans HB0.out
  obtain ⟨q0, q1, q2, q3, q4, q5, q6, q7⟩ := box_cells b1'
  have HR1 := Aside0.mk (HR.out.below hb1)
  have HB1 := Aside0.mk (below_step HB.out hb1)
  clear b1' hb1
  go_wp2_with fail
  refine (cT w1 HR1.out ha).mono ?_
  rintro e w2 ⟨rfl, hb2⟩
  have HB2 := Aside0.mk (below_step HB1.out hb2)
  clear hb2 q0 q1 q2 q3 q4 q5 q6 q7
  go_wp2
  go_ret2
  exact ⟨rfl, HB2.out⟩
 ·rw [if_neg g0] at hw ⊢
  have b1 : (F.placeE c == 0) = false := beq_eq_false_iff_ne.2 hw
  have b2 : (F.placeE c != 0) = true := by rw [bne_iff_ne]; exact hw
  clear hw g0 cT
  generalize F.placeE c = y at *
  obtain ⟨x0, x1, x2, x3, x4, x5, x6, x7⟩ := c
  have hB : Below w.heap.size w (w.alloc (.cells #[.int .i64 x0, .int .i64 x1, .int .i64 x2, .string x3, .string x4, .int .i64 x5, .int .i64 x6, .int .i64 x7] TC)) := (Below.refl _ w).alloc (Nat.le_refl _) _
  have HR := Aside0.mk (h.read.below hB)
  have HB := Aside0.mk hB
  unfold encC at cP ⊢
  clear hB h
  go_enter Try.func26, Try.ntmps26
  go_wp2_with (go_at_call 52; refine (cP _ HR.out).mono ?_; rintro e w1 ⟨rfl, hb1⟩)
  go_ret2
  exact ⟨rfl, below_step HB.out hb1⟩
end Go.Proofs.Ytlfldoghomnbkaa.QVfs
end
