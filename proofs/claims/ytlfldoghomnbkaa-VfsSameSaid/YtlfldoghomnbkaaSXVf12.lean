import Derived.Test.YtlfldoghomnbkaaSXVf11
import Derived.Test.YtlfldoghomnbkaaSQVfsI
-- Texts of this seat, what the claim does not reach struck out by a program.
namespace Go.Proofs.Ytlfldoghomnbkaa.QVfs
open Go.RowKit Go.Proofs.YtlfldoghomnbkaaW.PrintWords Go.Proofs.YtlfldoghomnbkaaW.PrintLast Go.Proofs.YtlfldoghomnbkaaW.PrintMore
set_option linter.unusedVariables false
set_option linter.unusedSimpArgs false
theorem wrap1 {i : Nat} (h : i ≤ 100000) : wrap64 ((i : Int) + 1) = ((i + 1 : Nat) : Int) := by unfold wrap64; omega
theorem rd_nat (l : List Int) (i : Nat) (h : i < l.length) : rd l (i : Int) = l[i] := by unfold rd; simp [h]
theorem index_int (l : List Int) (a : Int) (hl : l.length ≤ 1000) : ∀ m i k : Nat, l.length - i ≤ m → i ≤ l.length → m + 1 ≤ k →
  ∃ r, slices_Index_int_int.l0 k l a (l.length : Int) (i : Int) = some r ∧ -1 ≤ r ∧ decide (r ≥ 0) = (l.drop i).contains a := by
 have hend : ∀ k, 1 ≤ k → slices_Index_int_int.l0 k l a (l.length : Int) ((l.length : Nat) : Int) = some (-1) := by
  intro k hk
  obtain ⟨k, rfl⟩ : ∃ j, k = j + 1 := ⟨k - 1, by omega⟩
  rw [slices_Index_int_int.l0, if_neg (by omega)]
 intro m
 induction m with
 | zero =>
  intro i k h1 h2 h3
  obtain rfl : i = l.length := by omega
  exact ⟨-1, hend k (by omega), by omega, by rw [List.drop_length]; rfl⟩
 | succ m ih =>
  intro i k h1 h2 h3
  by_cases g : i = l.length
  ·subst g
   exact ⟨-1, hend k (by omega), by omega, by rw [List.drop_length]; rfl⟩
  ·obtain ⟨k, rfl⟩ : ∃ j, k = j + 1 := ⟨k - 1, by omega⟩
   have hi : i < l.length := by omega
   rw [slices_Index_int_int.l0, if_pos (by omega), if_pos (by omega), if_pos (by omega), rd_nat l i hi, List.drop_eq_getElem_cons hi, List.contains_cons]
   by_cases ga : a = l[i]
   ·rw [if_pos ga]
    refine ⟨i, rfl, by omega, ?_⟩
    rw [decide_eq_true (by omega), ga]; simp
   ·rw [if_neg ga, wrap1 (by omega)]
    obtain ⟨r, hr, hr1, hr2⟩ := ih (i + 1) k (by omega) (by omega) (by omega)
    refine ⟨r, hr, hr1, ?_⟩
    have : (a == l[i]) = false := beq_eq_false_iff_ne.2 ga
    rw [hr2, this, Bool.false_or]
theorem hasInt_calls (A : Option Addr) (c : Nat) (l : List Int) (a : Int) (w : World) (hl : l.length ≤ 1000) (hC : Kd.C (Kd.int .i64) w A l.length l) (hc : l.length ≤ c) :
  Calls Try.prog 55 #[.slice A l.length c, .int .i64 a] w fun e w' => e = .returned (.bool (l.contains a)) ∧ Drawn0 w w' := by
 obtain ⟨r, hr, _, hd⟩ := index_int l a hl 1000 0 1001 (by omega) (by omega) (by omega)
 refine slices_Contains_int_int.calls 1001 A c l a _ w hC hc ?_
 unfold slices_Contains_int_int.f slices_Index_int_int.f
 rw [show ((0 : Nat) : Int) = 0 from rfl] at hr
 rw [hr, Option.bind_some, hd]; rfl
theorem Calls.quiet_of_drawn {P : Program} {f : FuncId} {args : Array Value} {w : World} {n : Nat} {v : Value}
  (h : Calls P f args (w.drewN n) fun e w' => e = .returned v ∧ Drawn0 (w.drewN n) w') : Calls P f args (w.drewN n) fun e w'' => e = .returned v ∧ ∃ m, w'' = w.drewN m :=
 h.mono fun _ _ ⟨he, ⟨m, hm⟩⟩ => ⟨he, n + m, by rw [hm, World.drewN_drewN]⟩
def Fs.mountE (F : Fs) (t : Int) : Int := if (F.it t).f0.f2 = 2 then (if (F.it t).f3 = 0 then (if F.D.contains t = true then 1 else if 300 ≤ F.I.length then 9 else 0) else 1) else 3
set_option maxHeartbeats 4000000 in
set_option maxRecDepth 100000 in
theorem mount_kind (base g : Nat) (ok : Nat → Prop) (F : Fs) (c : Chg) (w : World) (h : FsAt base g ok F w) (ha : 0 ≤ c.f2 ∧ c.f2 < F.I.length) (hk : (F.it c.f2).f0.f2 ≠ 2) :
  Calls Try.prog 28 #[.pointer (some ⟨g, 0, none⟩), .agg (encC c).toArray] w fun e w' => e = .returned (.tuple #[.int .i64 0, .int .i64 3]) ∧ Below w.heap.size w w' := by
 obtain ⟨v1, v2, v3, es, hF, hok⟩ := h
 obtain ⟨x0, x1, x2, x3, x4, x5, x6, x7⟩ := c
 simp only at ha hk ⊢
 obtain ⟨a, rfl⟩ : ∃ a : Nat, x2 = a := ⟨x2.toNat, by omega⟩
 have hal : a < F.I.length := by omega
 obtain ⟨gi, capi, rfl, hcap⟩ := hF.form1 (by omega)
 obtain ⟨x, hx⟩ : ∃ x, F.I[a]? = some x := ⟨_, List.getElem?_eq_getElem hal⟩
 obtain ⟨e, he⟩ : ∃ e, es[a]? = some e := ⟨_, List.getElem?_eq_getElem (by rw [← hF.len]; exact hal)⟩
 have hxa : F.at a = x := by unfold Fs.at; rw [List.getD_eq_getElem?_getD, hx]; rfl
 rw [Fs.it_at, hxa] at hk
 obtain ⟨W, hW⟩ : ∃ W : World, W = w.alloc (.cells #[.int .i64 x0, .int .i64 x1, .int .i64 (a : Int), .string x3, .string x4, .int .i64 x5, .int .i64 x6, .int .i64 x7] TC) := ⟨_, rfl⟩
 have hB : Below w.heap.size w W := by rw [hW]; exact (Below.refl _ w).alloc (Nat.le_refl _) _
 have b0 : W.heap[w.heap.size]? = some (.cells #[.int .i64 x0, .int .i64 x1, .int .i64 (a : Int), .string x3, .string x4, .int .i64 x5, .int .i64 x6, .int .i64 x7] TC (0, 0)) := by rw [hW]; exact heap_alloc_new w _
 have hF1 := hF.below hB
 have k0 : W.cell? ⟨g, 0, none⟩ = some (.slice (some ⟨gi, 0, none⟩) F.I.length capi) := (blk_cell hF1.blk 0).trans rfl
 obtain ⟨q0, q1, q2, q3, q4, q5, q6, q7⟩ := box_cells b0
 have n1 : (0 : Int) ≤ (a : Int) := by omega
 have n2 : (a : Int) < (F.I.length : Int) := by omega
 have s2 : W.cell? ⟨gi, a * 17 + 2, none⟩ = some (.int .i64 x.f0.f2) := (hF1.cI hx he 2 (by omega)).1
 have s14 : W.cell? ⟨gi, a * 17 + 14, none⟩ = some (.int .i64 x.f2) := (hF1.cI hx he 14 (by omega)).1
 have s15 : W.cell? ⟨gi, a * 17 + 15, none⟩ = some (.int .i64 x.f3) := (hF1.cI hx he 15 (by omega)).1
 have HF1 := Aside0.mk hF1
 have HH := Aside0.mk (And.intro hx he)
 have HOK := Aside0.mk hok
 have HB := Aside0.mk hB
 have HB0 := Aside0.mk b0
 have HLT : Aside0 (w.heap.size < W.heap.size) := ⟨by rw [hW]; simp⟩
 unfold encC
 clear hB b0 hF1 hx he hxa hok hF hal
 generalize x.f0.f2 = kd at *
 generalize x.f3 = ov at *
 have b2 : (kd != 2) = true := by rw [bne_iff_ne]; exact hk
 clear hk
 go_enter Try.func28, Try.ntmps28
 go_wp2_with fail
 rw [← hW]
 clear hW
 go_wp2
 go_quiet (fail)
 go_wp2
 go_ret2
 exact ⟨rfl, below_step HB.out (by repeat (first | exact Below.refl _ _ | apply pw_below_drewN | apply below_drew1))⟩
set_option maxHeartbeats 4000000 in
set_option maxRecDepth 100000 in
theorem mount_over (base g : Nat) (ok : Nat → Prop) (F : Fs) (c : Chg) (w : World) (h : FsAt base g ok F w) (ha : 0 ≤ c.f2 ∧ c.f2 < F.I.length) (hk : (F.it c.f2).f0.f2 = 2) (ho : (F.it c.f2).f3 ≠ 0) :
  Calls Try.prog 28 #[.pointer (some ⟨g, 0, none⟩), .agg (encC c).toArray] w fun e w' => e = .returned (.tuple #[.int .i64 0, .int .i64 1]) ∧ Below w.heap.size w w' := by
 obtain ⟨v1, v2, v3, es, hF, hok⟩ := h
 obtain ⟨x0, x1, x2, x3, x4, x5, x6, x7⟩ := c
 simp only at ha hk ho ⊢
 obtain ⟨a, rfl⟩ : ∃ a : Nat, x2 = a := ⟨x2.toNat, by omega⟩
 have hal : a < F.I.length := by omega
 obtain ⟨gi, capi, rfl, hcap⟩ := hF.form1 (by omega)
 obtain ⟨x, hx⟩ : ∃ x, F.I[a]? = some x := ⟨_, List.getElem?_eq_getElem hal⟩
 obtain ⟨e, he⟩ : ∃ e, es[a]? = some e := ⟨_, List.getElem?_eq_getElem (by rw [← hF.len]; exact hal)⟩
 have hxa : F.at a = x := by unfold Fs.at; rw [List.getD_eq_getElem?_getD, hx]; rfl
 rw [Fs.it_at, hxa] at hk ho
 obtain ⟨W, hW⟩ : ∃ W : World, W = w.alloc (.cells #[.int .i64 x0, .int .i64 x1, .int .i64 (a : Int), .string x3, .string x4, .int .i64 x5, .int .i64 x6, .int .i64 x7] TC) := ⟨_, rfl⟩
 have hB : Below w.heap.size w W := by rw [hW]; exact (Below.refl _ w).alloc (Nat.le_refl _) _
 have b0 : W.heap[w.heap.size]? = some (.cells #[.int .i64 x0, .int .i64 x1, .int .i64 (a : Int), .string x3, .string x4, .int .i64 x5, .int .i64 x6, .int .i64 x7] TC (0, 0)) := by rw [hW]; exact heap_alloc_new w _
 have hF1 := hF.below hB
 have k0 : W.cell? ⟨g, 0, none⟩ = some (.slice (some ⟨gi, 0, none⟩) F.I.length capi) := (blk_cell hF1.blk 0).trans rfl
 obtain ⟨q0, q1, q2, q3, q4, q5, q6, q7⟩ := box_cells b0
 have n1 : (0 : Int) ≤ (a : Int) := by omega
 have n2 : (a : Int) < (F.I.length : Int) := by omega
 have s2 : W.cell? ⟨gi, a * 17 + 2, none⟩ = some (.int .i64 x.f0.f2) := (hF1.cI hx he 2 (by omega)).1
 have s14 : W.cell? ⟨gi, a * 17 + 14, none⟩ = some (.int .i64 x.f2) := (hF1.cI hx he 14 (by omega)).1
 have s15 : W.cell? ⟨gi, a * 17 + 15, none⟩ = some (.int .i64 x.f3) := (hF1.cI hx he 15 (by omega)).1
 have HF1 := Aside0.mk hF1
 have HH := Aside0.mk (And.intro hx he)
 have HOK := Aside0.mk hok
 have HB := Aside0.mk hB
 have HB0 := Aside0.mk b0
 have HLT : Aside0 (w.heap.size < W.heap.size) := ⟨by rw [hW]; simp⟩
 unfold encC
 clear hB b0 hF1 hx he hxa hok hF hal
 generalize x.f0.f2 = kd at *
 generalize x.f3 = ov at *
 have b2 : (kd != 2) = false := by rw [hk]; rfl
 have b3 : (ov != 0) = true := by rw [bne_iff_ne]; exact ho
 clear hk ho
 go_enter Try.func28, Try.ntmps28
 go_wp2_with fail
 rw [← hW]
 clear hW
 go_wp2
 go_quiet (fail)
 go_wp2
 go_quiet (fail)
 go_wp2
 go_ret2
 exact ⟨rfl, below_step HB.out (by repeat (first | exact Below.refl _ _ | apply pw_below_drewN | apply below_drew1))⟩
set_option maxHeartbeats 4000000 in
set_option maxRecDepth 100000 in
theorem mount_first (base g : Nat) (ok : Nat → Prop) (F : Fs) (c : Chg) (w : World) (h : FsAt base g ok F w) (ha : 0 ≤ c.f2 ∧ c.f2 < F.I.length) (hk : (F.it c.f2).f0.f2 = 2) (ho : (F.it c.f2).f3 = 0) (hc : F.D.contains c.f2 = true) (hD : F.D.length ≤ 1000) :
  Calls Try.prog 28 #[.pointer (some ⟨g, 0, none⟩), .agg (encC c).toArray] w fun e w' => e = .returned (.tuple #[.int .i64 0, .int .i64 1]) ∧ Below w.heap.size w w' := by
 obtain ⟨v1, v2, v3, es, hF, hok⟩ := h
 obtain ⟨x0, x1, x2, x3, x4, x5, x6, x7⟩ := c
 simp only at ha hk ho hc ⊢
 obtain ⟨a, rfl⟩ : ∃ a : Nat, x2 = a := ⟨x2.toNat, by omega⟩
 have hal : a < F.I.length := by omega
 obtain ⟨gi, capi, rfl, hcap⟩ := hF.form1 (by omega)
 obtain ⟨x, hx⟩ : ∃ x, F.I[a]? = some x := ⟨_, List.getElem?_eq_getElem hal⟩
 obtain ⟨e, he⟩ : ∃ e, es[a]? = some e := ⟨_, List.getElem?_eq_getElem (by rw [← hF.len]; exact hal)⟩
 have hxa : F.at a = x := by unfold Fs.at; rw [List.getD_eq_getElem?_getD, hx]; rfl
 rw [Fs.it_at, hxa] at hk ho
 obtain ⟨W, hW⟩ : ∃ W : World, W = w.alloc (.cells #[.int .i64 x0, .int .i64 x1, .int .i64 (a : Int), .string x3, .string x4, .int .i64 x5, .int .i64 x6, .int .i64 x7] TC) := ⟨_, rfl⟩
 have hB : Below w.heap.size w W := by rw [hW]; exact (Below.refl _ w).alloc (Nat.le_refl _) _
 have b0 : W.heap[w.heap.size]? = some (.cells #[.int .i64 x0, .int .i64 x1, .int .i64 (a : Int), .string x3, .string x4, .int .i64 x5, .int .i64 x6, .int .i64 x7] TC (0, 0)) := by rw [hW]; exact heap_alloc_new w _
 have hF1 := hF.below hB
 have k0 : W.cell? ⟨g, 0, none⟩ = some (.slice (some ⟨gi, 0, none⟩) F.I.length capi) := (blk_cell hF1.blk 0).trans rfl
 obtain ⟨q0, q1, q2, q3, q4, q5, q6, q7⟩ := box_cells b0
 have n1 : (0 : Int) ≤ (a : Int) := by omega
 have n2 : (a : Int) < (F.I.length : Int) := by omega
 have s2 : W.cell? ⟨gi, a * 17 + 2, none⟩ = some (.int .i64 x.f0.f2) := (hF1.cI hx he 2 (by omega)).1
 have s14 : W.cell? ⟨gi, a * 17 + 14, none⟩ = some (.int .i64 x.f2) := (hF1.cI hx he 14 (by omega)).1
 have s15 : W.cell? ⟨gi, a * 17 + 15, none⟩ = some (.int .i64 x.f3) := (hF1.cI hx he 15 (by omega)).1
 obtain ⟨A1, c1, rfl, l1, hC1⟩ := ints_of_own hF1.rD
 have k1 : W.cell? ⟨g, 1, none⟩ = some (.slice A1 F.D.length c1) := (blk_cell hF1.blk 1).trans rfl
 have cH := fun W' (hB' : Below W.heap.size W W') => hasInt_calls A1 c1 F.D (a : Int) W' hD (Kd.C_below hC1 hB') l1
 rw [hc] at cH
 have HCH := Aside0.mk cH
 clear cH hC1
 have HF1 := Aside0.mk hF1
 have HH := Aside0.mk (And.intro hx he)
 have HOK := Aside0.mk hok
 have HB := Aside0.mk hB
 have HB0 := Aside0.mk b0
 have HLT : Aside0 (w.heap.size < W.heap.size) := ⟨by rw [hW]; simp⟩
 unfold encC
 clear hB b0 hF1 hx he hxa hok hF hal
 generalize x.f0.f2 = kd at *
 generalize x.f3 = ov at *
 have b2 : (kd != 2) = false := by rw [hk]; rfl
 have b3 : (ov != 0) = false := by rw [ho]; rfl
 clear hk ho hc
 go_enter Try.func28, Try.ntmps28
 go_wp2_with fail
 rw [← hW]
 clear hW
 go_wp2
 go_quiet (fail)
 rename_i nq
 obtain ⟨W3, hW3⟩ : ∃ W3 : World, W3 = W.drewN nq := ⟨_, rfl⟩
 rw [← hW3]
 replace k0 : W3.cell? ⟨g, 0, none⟩ = some (.slice (some ⟨gi, 0, none⟩) F.I.length capi) := by rw [hW3]; exact k0
 replace k1 : W3.cell? ⟨g, 1, none⟩ = some (.slice A1 F.D.length c1) := by rw [hW3]; exact k1
 replace q2 : W3.cell? ⟨w.heap.size, 2, none⟩ = some (.int .i64 (a : Int)) := by rw [hW3]; exact q2
 replace q5 : W3.cell? ⟨w.heap.size, 5, none⟩ = some (.int .i64 x5) := by rw [hW3]; exact q5
 replace s15 : W3.cell? ⟨gi, a * 17 + 15, none⟩ = some (.int .i64 ov) := by rw [hW3]; exact s15
 replace s14 : W3.cell? ⟨gi, a * 17 + 14, none⟩ = some (.int .i64 x.f2) := by rw [hW3]; exact s14
 have HB3 := Aside0.mk (show Below W.heap.size W W3 by rw [hW3]; exact pw_below_drewN (Below.refl _ _) _)
 clear hW3 s2 q0 q1 q3 q4 q6 q7
 go_wp2
 go_quiet ((go_at_call 55; exact Calls.quiet_of_drawn (HCH.out _ (by repeat (first | exact HB3.out | apply pw_below_drewN))))) 
 go_wp2
 go_ret2
 exact ⟨rfl, below_step HB.out (by repeat (first | exact Below.refl _ _ | exact HB3.out | apply pw_below_drewN | apply below_drew1))⟩
set_option maxHeartbeats 4000000 in
set_option maxRecDepth 100000 in
theorem mount_many (base g : Nat) (ok : Nat → Prop) (F : Fs) (c : Chg) (w : World) (h : FsAt base g ok F w) (ha : 0 ≤ c.f2 ∧ c.f2 < F.I.length) (hk : (F.it c.f2).f0.f2 = 2) (ho : (F.it c.f2).f3 = 0) (hc : F.D.contains c.f2 = false) (hD : F.D.length ≤ 1000) (hl : 300 ≤ F.I.length) :
  Calls Try.prog 28 #[.pointer (some ⟨g, 0, none⟩), .agg (encC c).toArray] w fun e w' => e = .returned (.tuple #[.int .i64 0, .int .i64 9]) ∧ Below w.heap.size w w' := by
 obtain ⟨v1, v2, v3, es, hF, hok⟩ := h
 obtain ⟨x0, x1, x2, x3, x4, x5, x6, x7⟩ := c
 simp only at ha hk ho hc ⊢
 obtain ⟨a, rfl⟩ : ∃ a : Nat, x2 = a := ⟨x2.toNat, by omega⟩
 have hal : a < F.I.length := by omega
 obtain ⟨gi, capi, rfl, hcap⟩ := hF.form1 (by omega)
 obtain ⟨x, hx⟩ : ∃ x, F.I[a]? = some x := ⟨_, List.getElem?_eq_getElem hal⟩
 obtain ⟨e, he⟩ : ∃ e, es[a]? = some e := ⟨_, List.getElem?_eq_getElem (by rw [← hF.len]; exact hal)⟩
 have hxa : F.at a = x := by unfold Fs.at; rw [List.getD_eq_getElem?_getD, hx]; rfl
 rw [Fs.it_at, hxa] at hk ho
 obtain ⟨W, hW⟩ : ∃ W : World, W = w.alloc (.cells #[.int .i64 x0, .int .i64 x1, .int .i64 (a : Int), .string x3, .string x4, .int .i64 x5, .int .i64 x6, .int .i64 x7] TC) := ⟨_, rfl⟩
 have hB : Below w.heap.size w W := by rw [hW]; exact (Below.refl _ w).alloc (Nat.le_refl _) _
 have b0 : W.heap[w.heap.size]? = some (.cells #[.int .i64 x0, .int .i64 x1, .int .i64 (a : Int), .string x3, .string x4, .int .i64 x5, .int .i64 x6, .int .i64 x7] TC (0, 0)) := by rw [hW]; exact heap_alloc_new w _
 have hF1 := hF.below hB
 have k0 : W.cell? ⟨g, 0, none⟩ = some (.slice (some ⟨gi, 0, none⟩) F.I.length capi) := (blk_cell hF1.blk 0).trans rfl
 obtain ⟨q0, q1, q2, q3, q4, q5, q6, q7⟩ := box_cells b0
 have n1 : (0 : Int) ≤ (a : Int) := by omega
 have n2 : (a : Int) < (F.I.length : Int) := by omega
 have s2 : W.cell? ⟨gi, a * 17 + 2, none⟩ = some (.int .i64 x.f0.f2) := (hF1.cI hx he 2 (by omega)).1
 have s14 : W.cell? ⟨gi, a * 17 + 14, none⟩ = some (.int .i64 x.f2) := (hF1.cI hx he 14 (by omega)).1
 have s15 : W.cell? ⟨gi, a * 17 + 15, none⟩ = some (.int .i64 x.f3) := (hF1.cI hx he 15 (by omega)).1
 obtain ⟨A1, c1, rfl, l1, hC1⟩ := ints_of_own hF1.rD
 have k1 : W.cell? ⟨g, 1, none⟩ = some (.slice A1 F.D.length c1) := (blk_cell hF1.blk 1).trans rfl
 have cH := fun W' (hB' : Below W.heap.size W W') => hasInt_calls A1 c1 F.D (a : Int) W' hD (Kd.C_below hC1 hB') l1
 rw [hc] at cH
 have HCH := Aside0.mk cH
 clear cH hC1
 have HF1 := Aside0.mk hF1
 have HH := Aside0.mk (And.intro hx he)
 have HOK := Aside0.mk hok
 have HB := Aside0.mk hB
 have HB0 := Aside0.mk b0
 have HLT : Aside0 (w.heap.size < W.heap.size) := ⟨by rw [hW]; simp⟩
 unfold encC
 clear hB b0 hF1 hx he hxa hok hF hal
 generalize x.f0.f2 = kd at *
 generalize x.f3 = ov at *
 have b2 : (kd != 2) = false := by rw [hk]; rfl
 have b3 : (ov != 0) = false := by rw [ho]; rfl
 have b4 : decide ((300 : Int) ≤ (F.I.length : Int)) = true := decide_eq_true (by omega)
 clear hk ho hc
 go_enter Try.func28, Try.ntmps28
 go_wp2_with fail
 rw [← hW]
 clear hW
 go_wp2
 go_quiet (fail)
 rename_i nq
 obtain ⟨W3, hW3⟩ : ∃ W3 : World, W3 = W.drewN nq := ⟨_, rfl⟩
 rw [← hW3]
 replace k0 : W3.cell? ⟨g, 0, none⟩ = some (.slice (some ⟨gi, 0, none⟩) F.I.length capi) := by rw [hW3]; exact k0
 replace k1 : W3.cell? ⟨g, 1, none⟩ = some (.slice A1 F.D.length c1) := by rw [hW3]; exact k1
 replace q2 : W3.cell? ⟨w.heap.size, 2, none⟩ = some (.int .i64 (a : Int)) := by rw [hW3]; exact q2
 replace q5 : W3.cell? ⟨w.heap.size, 5, none⟩ = some (.int .i64 x5) := by rw [hW3]; exact q5
 replace s15 : W3.cell? ⟨gi, a * 17 + 15, none⟩ = some (.int .i64 ov) := by rw [hW3]; exact s15
 replace s14 : W3.cell? ⟨gi, a * 17 + 14, none⟩ = some (.int .i64 x.f2) := by rw [hW3]; exact s14
 have HB3 := Aside0.mk (show Below W.heap.size W W3 by rw [hW3]; exact pw_below_drewN (Below.refl _ _) _)
 clear hW3 s2 q0 q1 q3 q4 q6 q7
 go_wp2
 go_quiet ((go_at_call 55; exact Calls.quiet_of_drawn (HCH.out _ (by repeat (first | exact HB3.out | apply pw_below_drewN))))) 
 go_wp2
 go_ret2
 exact ⟨rfl, below_step HB.out (by repeat (first | exact Below.refl _ _ | exact HB3.out | apply pw_below_drewN | apply below_drew1))⟩
set_option maxHeartbeats 4000000 in
set_option maxRecDepth 100000 in
theorem mount_ok (base g : Nat) (ok : Nat → Prop) (F : Fs) (c : Chg) (w : World) (h : FsAt base g ok F w) (ha : 0 ≤ c.f2 ∧ c.f2 < F.I.length) (hk : (F.it c.f2).f0.f2 = 2) (ho : (F.it c.f2).f3 = 0) (hc : F.D.contains c.f2 = false) (hD : F.D.length ≤ 1000) (hC : F.C.length ≤ 999) (hl : F.I.length < 300) :
  Calls Try.prog 28 #[.pointer (some ⟨g, 0, none⟩), .agg (encC c).toArray] w fun e w' => e = .returned (.tuple #[.int .i64 F.I.length, .int .i64 0]) ∧ FsAt base g (fun k => ok k ∨ w.heap.size ≤ k) ((F.device c.f5 (F.it c.f2).f2).setI c.f2.toNat (Item.over ((F.device c.f5 (F.it c.f2).f2).at c.f2.toNat) F.I.length)) w' ∧ Held w w' ok := by
 obtain ⟨v1, v2, v3, es, hF, hok⟩ := h.tight
 obtain ⟨x0, x1, x2, x3, x4, x5, x6, x7⟩ := c
 simp only at ha hk ho hc ⊢
 obtain ⟨a, rfl⟩ : ∃ a : Nat, x2 = a := ⟨x2.toNat, by omega⟩
 have hal : a < F.I.length := by omega
 obtain ⟨gi, capi, rfl, hcap⟩ := hF.form1 (by omega)
 obtain ⟨x, hx⟩ : ∃ x, F.I[a]? = some x := ⟨_, List.getElem?_eq_getElem hal⟩
 obtain ⟨e, he⟩ : ∃ e, es[a]? = some e := ⟨_, List.getElem?_eq_getElem (by rw [← hF.len]; exact hal)⟩
 have hxa : F.at a = x := by unfold Fs.at; rw [List.getD_eq_getElem?_getD, hx]; rfl
 rw [Fs.it_at, hxa] at hk ho ⊢
 rw [Int.toNat_natCast]
 obtain ⟨W, hW⟩ : ∃ W : World, W = w.alloc (.cells #[.int .i64 x0, .int .i64 x1, .int .i64 (a : Int), .string x3, .string x4, .int .i64 x5, .int .i64 x6, .int .i64 x7] TC) := ⟨_, rfl⟩
 have hB : Below w.heap.size w W := by rw [hW]; exact (Below.refl _ w).alloc (Nat.le_refl _) _
 have b0 : W.heap[w.heap.size]? = some (.cells #[.int .i64 x0, .int .i64 x1, .int .i64 (a : Int), .string x3, .string x4, .int .i64 x5, .int .i64 x6, .int .i64 x7] TC (0, 0)) := by rw [hW]; exact heap_alloc_new w _
 have hF1 := hF.below hB
 have k0 : W.cell? ⟨g, 0, none⟩ = some (.slice (some ⟨gi, 0, none⟩) F.I.length capi) := (blk_cell hF1.blk 0).trans rfl
 obtain ⟨q0, q1, q2, q3, q4, q5, q6, q7⟩ := box_cells b0
 have n1 : (0 : Int) ≤ (a : Int) := by omega
 have n2 : (a : Int) < (F.I.length : Int) := by omega
 have s2 : W.cell? ⟨gi, a * 17 + 2, none⟩ = some (.int .i64 x.f0.f2) := (hF1.cI hx he 2 (by omega)).1
 have s14 : W.cell? ⟨gi, a * 17 + 14, none⟩ = some (.int .i64 x.f2) := (hF1.cI hx he 14 (by omega)).1
 have s15 : W.cell? ⟨gi, a * 17 + 15, none⟩ = some (.int .i64 x.f3) := (hF1.cI hx he 15 (by omega)).1
 obtain ⟨A1, c1, rfl, l1, hC1⟩ := ints_of_own hF1.rD
 have k1 : W.cell? ⟨g, 1, none⟩ = some (.slice A1 F.D.length c1) := (blk_cell hF1.blk 1).trans rfl
 have cH := fun W' (hB' : Below W.heap.size W W') => hasInt_calls A1 c1 F.D (a : Int) W' hD (Kd.C_below hC1 hB') l1
 rw [hc] at cH
 have HCH := Aside0.mk cH
 clear cH hC1
 have HF1 := Aside0.mk hF1
 have HH := Aside0.mk (And.intro hx he)
 have HOK := Aside0.mk hok
 have HB := Aside0.mk hB
 have HB0 := Aside0.mk b0
 have HLT : Aside0 (w.heap.size < W.heap.size) := ⟨by rw [hW]; simp⟩
 unfold encC
 clear hB b0 hF1 hx he hxa hok hF hal
 generalize x.f0.f2 = kd at *
 generalize x.f3 = ov at *
 have b2 : (kd != 2) = false := by rw [hk]; rfl
 have b3 : (ov != 0) = false := by rw [ho]; rfl
 have b4 : decide ((300 : Int) ≤ (F.I.length : Int)) = false := decide_eq_false (by omega)
 clear hk ho hc
 go_enter Try.func28, Try.ntmps28
 go_wp2_with fail
 rw [← hW]
 clear hW
 go_wp2
 go_quiet (fail)
 rename_i nq
 obtain ⟨W3, hW3⟩ : ∃ W3 : World, W3 = W.drewN nq := ⟨_, rfl⟩
 rw [← hW3]
 replace k0 : W3.cell? ⟨g, 0, none⟩ = some (.slice (some ⟨gi, 0, none⟩) F.I.length capi) := by rw [hW3]; exact k0
 replace k1 : W3.cell? ⟨g, 1, none⟩ = some (.slice A1 F.D.length c1) := by rw [hW3]; exact k1
 replace q2 : W3.cell? ⟨w.heap.size, 2, none⟩ = some (.int .i64 (a : Int)) := by rw [hW3]; exact q2
 replace q5 : W3.cell? ⟨w.heap.size, 5, none⟩ = some (.int .i64 x5) := by rw [hW3]; exact q5
 replace s15 : W3.cell? ⟨gi, a * 17 + 15, none⟩ = some (.int .i64 ov) := by rw [hW3]; exact s15
 replace s14 : W3.cell? ⟨gi, a * 17 + 14, none⟩ = some (.int .i64 x.f2) := by rw [hW3]; exact s14
 have HB3 := Aside0.mk (show Below W.heap.size W W3 by rw [hW3]; exact pw_below_drewN (Below.refl _ _) _)
 clear hW3 s2 q0 q1 q3 q4 q6 q7
 go_wp2
 go_quiet ((go_at_call 55; exact Calls.quiet_of_drawn (HCH.out _ (by repeat (first | exact HB3.out | apply pw_below_drewN))))) 
 generalize hW4 : World.drewN W3 _ = W4
 replace hW4 := hW4.symm
 replace k0 : W4.cell? ⟨g, 0, none⟩ = some (.slice (some ⟨gi, 0, none⟩) F.I.length capi) := by rw [hW4]; exact k0
 replace q2 : W4.cell? ⟨w.heap.size, 2, none⟩ = some (.int .i64 (a : Int)) := by rw [hW4]; exact q2
 replace q5 : W4.cell? ⟨w.heap.size, 5, none⟩ = some (.int .i64 x5) := by rw [hW4]; exact q5
 replace s14 : W4.cell? ⟨gi, a * 17 + 14, none⟩ = some (.int .i64 x.f2) := by rw [hW4]; exact s14
 have hB4 : Below W.heap.size W W4 := below_step HB3.out (by rw [hW4]; exact pw_below_drewN (Below.refl _ _) _)
 have HB4 := Aside0.mk hB4
 have hdev := fun W' (hB' : Below W4.heap.size W4 W') => device_calls base g _ F x5 x.f2 W' ⟨_, _, _, _, (HF1.out.below hB4).below hB', HOK.out⟩ (by omega) (by omega) hD
 obtain ⟨up, hup⟩ : ∃ up, up = x.f2 := ⟨_, rfl⟩
 rw [← hup] at s14 hdev
 have HUP := Aside0.mk hup.symm
 have HDEV := Aside0.mk hdev
 clear hdev hB4 hW4 k1 s15 hup
 go_wp2
 go_region_with ((go_at_call 25; refine (HDEV.out _ (below_drew (Below.refl _ _))).mono ?_; rintro e w5 ⟨rfl, h5, k5⟩))
 all_goals
  have hb5 := ((below_drew (Below.refl W4.heap.size W4)).block _ (Nat.lt_of_lt_of_le HLT.out HB4.out.size)).trans ((HB4.out.block _ HLT.out).trans HB0.out)
  have b5 := blk_kept hb5 k5.kept (fun h => by have := h.2; omega)
  have HK5 : Aside0 (Held w w5 (fun k => ok k ∧ k < w.heap.size)) := ⟨((Held.of_below (below_step (below_step HB.out HB4.out) (below_drew (Below.refl _ _))) _).then_ k5 (fun k hk => Or.inl hk))⟩
  have hsz : w.heap.size ≤ W4.heap.size := Nat.le_trans (Nat.le_of_lt HLT.out) HB4.out.size
  obtain ⟨u1, u2, u3, us, hG, hgok⟩ := h5
  have hlen : (F.device x5 up).I.length = F.I.length + 1 := by
   show (F.I ++ [_]).length = _
   rw [List.length_append]; rfl
  obtain ⟨gj, capj, rfl, hcapj⟩ := hG.form1 (by omega)
  have hal : a < (F.device x5 up).I.length := by omega
  obtain ⟨y, hy⟩ : ∃ y, (F.device x5 up).I[a]? = some y := ⟨_, List.getElem?_eq_getElem hal⟩
  obtain ⟨f, hf⟩ : ∃ f, us[a]? = some f := ⟨_, List.getElem?_eq_getElem (by rw [← hG.len]; exact hal)⟩
  have hya : (F.device x5 up).at a = y := by unfold Fs.at; rw [List.getD_eq_getElem?_getD, hy]; rfl
  have hS := hG.setI' hy hf (j := 15) (x' := Item.over y (F.I.length : Int)) (u := .int .i64 (F.I.length : Int)) (by omega) rfl rfl
  have k0 : w5.cell? ⟨g, 0, none⟩ = some (.slice (some ⟨gj, 0, none⟩) (F.I.length + 1) capj) := by rw [← hlen]; exact (blk_cell hG.blk 0).trans rfl
  obtain ⟨s15, f15⟩ := hG.cI hy hf 15 (by omega)
  replace s15 : w5.cell? ⟨gj, a * 17 + 15, none⟩ = some (.int .i64 y.f3) := s15
  have HYA := Aside0.mk hya
  clear q2 q5
  obtain ⟨q0, q1, q2, q3, q4, q5, q6, q7⟩ := box_cells b5
  have n3 : (a : Int) < ((F.I.length + 1 : Nat) : Int) := by omega
  have HS := Aside0.mk hS
  have HGOK := Aside0.mk hgok
  have HSZ := Aside0.mk hsz
  clear hb5 b5 k5 hG hgok hlen hal hy hf hya hS s14 hsz
  generalize y.f3 = ov2 at *
  go_wp2
  go_region
  go_wp2
  go_ret2
  rw [HUP.out, HYA.out]
  refine ⟨rfl, ⟨_, _, _, _, HS.out.same rfl, fun k hk => ?_⟩, ?_⟩
  ·rcases HGOK.out k hk with h | h
   ·exact Or.inl h.1
   ·right
    exact Nat.le_trans HSZ.out (by simpa using h)
  ·exact ((HK5.out.setCell (p := ⟨gj, a * 17 + 15, none⟩) (by
    rcases HGOK.out gj (.inr (.inl rfl)) with h | h
    ·exact Or.inl h
    ·right; exact Nat.le_trans HSZ.out (by simpa using h)) _).drew).mono (fun k hk => hk.1)
end Go.Proofs.Ytlfldoghomnbkaa.QVfs
