import Derived.Test.YtlfldoghomnbkaaSR0
import Derived.Test.YtlfldoghomnbkaaSXExt
-- Texts of this seat, what the claim does not reach struck out by a program.
section
namespace Go.Proofs.Ytlfldoghomnbkaa.QVfs
open Go.RowKit Go.Proofs.YtlfldoghomnbkaaW.PrintWords Go.Proofs.YtlfldoghomnbkaaW.PrintLast Go.Proofs.YtlfldoghomnbkaaW.PrintMore
set_option linter.unusedVariables false
set_option linter.unusedSimpArgs false
set_option maxHeartbeats 8000000 in
set_option maxRecDepth 100000 in
theorem wrong_l2 (R : Ref) (c : Chg) (w : World) (vs : Array Value) (h : RefAt R w vs) (hk : 0 ≤ c.f0 ∧ c.f0 < 4) (h1 : R.has c.f1 = false) :
  Calls Try.prog 31 #[.agg vs, .agg (encC c).toArray] w fun e w' => e = .returned (.int .i64 2) ∧ Below w.heap.size w w' := by
 obtain ⟨x0, x1, x2, x3, x4, x5, x6, x7⟩ := c
 simp only at *
 have dk0 : decide (x0 < 0) = false := decide_eq_false (by omega)
 have dk8 : decide (8 < x0) = false := decide_eq_false (by omega)
 have dk4 : decide (x0 < 4) = true := decide_eq_true hk.2
 clear hk
 have cH := fun W (hB : Below w.heap.size w W) => refHas_calls R x1 W vs (h.below hB)
 rw [h1] at cH
 have HX1 := Aside0.mk h1
 clear h1
 have HH := Aside0.mk cH
 clear cH
 obtain ⟨A0, c0, A1, c1, A2, c2, A3, c3, A4, c4, A5, c5, rfl, h0, h1, h2, h3, h4, h5⟩ := h
 have H0 := Aside0.mk h0
 have H1 := Aside0.mk h1
 have H2 := Aside0.mk h2
 obtain ⟨W0, hW0⟩ : ∃ W0 : World, W0 = w.alloc (.cells #[.slice A0 R.N.length c0, .slice A1 R.L.length c1, .slice A2 R.Cov.length c2, .slice A3 R.Dead.length c3, .slice A4 R.Above.length c4, .slice A5 R.Firsts.length c5] TR) := ⟨_, rfl⟩
 have hB0 : Below w.heap.size w W0 := by rw [hW0]; exact (Below.refl _ w).alloc (Nat.le_refl _) _
 have d0 := heap_alloc_new w (.cells #[.slice A0 R.N.length c0, .slice A1 R.L.length c1, .slice A2 R.Cov.length c2, .slice A3 R.Dead.length c3, .slice A4 R.Above.length c4, .slice A5 R.Firsts.length c5] TR)
 rw [← hW0] at d0
 have hs0 : W0.heap.size = w.heap.size + 1 := by rw [hW0]; simp
 obtain ⟨W, hW⟩ : ∃ W : World, W = W0.alloc (.cells #[.int .i64 x0, .int .i64 x1, .int .i64 x2, .string x3, .string x4, .int .i64 x5, .int .i64 x6, .int .i64 x7] TC) := ⟨_, rfl⟩
 have hB1 : Below W0.heap.size W0 W := by rw [hW]; exact (Below.refl _ W0).alloc (Nat.le_refl _) _
 have b0 := heap_alloc_new W0 (.cells #[.int .i64 x0, .int .i64 x1, .int .i64 x2, .string x3, .string x4, .int .i64 x5, .int .i64 x6, .int .i64 x7] TC)
 rw [← hW, hs0] at b0
 have d1 := (hB1.block w.heap.size (by omega)).trans d0
 have HB := Aside0.mk (below_step hB0 hB1)
 obtain ⟨q0, q1, q2, q3, q4, q5, q6, q7⟩ := box_cells b0
 obtain ⟨r0, r1, r2, r3, r4, r5⟩ := boxR_cells d1
 have HD := Aside0.mk d1
 have HC := Aside0.mk b0
 have HS0 := Aside0.mk hs0
 unfold encC
 clear hB0 d0 hB1 b0 d1 h0 h1 h2 h3 h4 h5 hs0
 go_enter Try.func31, Try.ntmps31
 go_wp2_with fail
 rw [← hW0, ← hW]
 clear hW hW0
 refine (HH.out W HB.out).mono ?_
 rintro e w1 ⟨rfl, hb1⟩
 have hlt := blk_lt HC.out
 have e1 := (hb1.block _ (by omega)).trans HD.out
 have e2 := (hb1.block _ hlt).trans HC.out
 have HB' := Aside0.mk (below_step HB.out hb1)
 clear q0 q1 q2 q3 q4 q5 q6 q7 r0 r1 r2 r3 r4 r5 hb1 hlt HB HD HC
 have HB := HB'
 have HD := Aside0.mk e1
 have HC := Aside0.mk e2
 obtain ⟨q0, q1, q2, q3, q4, q5, q6, q7⟩ := box_cells e2
 obtain ⟨r0, r1, r2, r3, r4, r5⟩ := boxR_cells e1
 clear e1 e2 HB'
 go_wp2
 go_ret
 exact ⟨rfl, HB.out⟩
set_option maxHeartbeats 8000000 in
set_option maxRecDepth 100000 in
theorem wrong_l3 (R : Ref) (c : Chg) (w : World) (vs : Array Value) (h : RefAt R w vs) (hk : 0 ≤ c.f0 ∧ c.f0 < 4) (h1 : R.has c.f1 = true) (hkd : (R.n c.f1).f2 ≠ 2) :
  Calls Try.prog 31 #[.agg vs, .agg (encC c).toArray] w fun e w' => e = .returned (.int .i64 3) ∧ Below w.heap.size w w' := by
 obtain ⟨x0, x1, x2, x3, x4, x5, x6, x7⟩ := c
 simp only at *
 have dk0 : decide (x0 < 0) = false := decide_eq_false (by omega)
 have dk8 : decide (8 < x0) = false := decide_eq_false (by omega)
 have dk4 : decide (x0 < 4) = true := decide_eq_true hk.2
 clear hk
 have cH := fun W (hB : Below w.heap.size w W) => refHas_calls R x1 W vs (h.below hB)
 rw [h1] at cH
 have HX1 := Aside0.mk h1
 clear h1
 have HH := Aside0.mk cH
 clear cH
 unfold Ref.n at hkd
 have dk2 : ((rd_T36 R.N x1).f2 != 2) = true := by rw [bne_iff_ne]; exact hkd
 clear hkd
 have hin1 : 0 ≤ x1 ∧ x1 < R.N.length := of_decide_eq_true HX1.out
 obtain ⟨A0, c0, A1, c1, A2, c2, A3, c3, A4, c4, A5, c5, rfl, h0, h1, h2, h3, h4, h5⟩ := h
 obtain ⟨ad0, he0, _⟩ := at_T36 h0.1 x1 hin1.1 hin1.2
 subst he0
 have b1 := hin1.1
 have b2 := hin1.2
 clear hin1
 have H0 := Aside0.mk h0
 have H1 := Aside0.mk h1
 have H2 := Aside0.mk h2
 obtain ⟨W0, hW0⟩ : ∃ W0 : World, W0 = w.alloc (.cells #[.slice (some ad0) R.N.length c0, .slice A1 R.L.length c1, .slice A2 R.Cov.length c2, .slice A3 R.Dead.length c3, .slice A4 R.Above.length c4, .slice A5 R.Firsts.length c5] TR) := ⟨_, rfl⟩
 have hB0 : Below w.heap.size w W0 := by rw [hW0]; exact (Below.refl _ w).alloc (Nat.le_refl _) _
 have d0 := heap_alloc_new w (.cells #[.slice (some ad0) R.N.length c0, .slice A1 R.L.length c1, .slice A2 R.Cov.length c2, .slice A3 R.Dead.length c3, .slice A4 R.Above.length c4, .slice A5 R.Firsts.length c5] TR)
 rw [← hW0] at d0
 have hs0 : W0.heap.size = w.heap.size + 1 := by rw [hW0]; simp
 obtain ⟨W, hW⟩ : ∃ W : World, W = W0.alloc (.cells #[.int .i64 x0, .int .i64 x1, .int .i64 x2, .string x3, .string x4, .int .i64 x5, .int .i64 x6, .int .i64 x7] TC) := ⟨_, rfl⟩
 have hB1 : Below W0.heap.size W0 W := by rw [hW]; exact (Below.refl _ W0).alloc (Nat.le_refl _) _
 have b0 := heap_alloc_new W0 (.cells #[.int .i64 x0, .int .i64 x1, .int .i64 x2, .string x3, .string x4, .int .i64 x5, .int .i64 x6, .int .i64 x7] TC)
 rw [← hW, hs0] at b0
 have d1 := (hB1.block w.heap.size (by omega)).trans d0
 have HB := Aside0.mk (below_step hB0 hB1)
 obtain ⟨q0, q1, q2, q3, q4, q5, q6, q7⟩ := box_cells b0
 obtain ⟨r0, r1, r2, r3, r4, r5⟩ := boxR_cells d1
 have HD := Aside0.mk d1
 have HC := Aside0.mk b0
 have HS0 := Aside0.mk hs0
 unfold encC
 clear hB0 d0 hB1 b0 d1 h0 h1 h2 h3 h4 h5 hs0
 go_enter Try.func31, Try.ntmps31
 go_wp2_with fail
 rw [← hW0, ← hW]
 clear hW hW0
 refine (HH.out W HB.out).mono ?_
 rintro e w1 ⟨rfl, hb1⟩
 have hlt := blk_lt HC.out
 have e1 := (hb1.block _ (by omega)).trans HD.out
 have e2 := (hb1.block _ hlt).trans HC.out
 have HB' := Aside0.mk (below_step HB.out hb1)
 clear q0 q1 q2 q3 q4 q5 q6 q7 r0 r1 r2 r3 r4 r5 hb1 hlt HB HD HC
 have HB := HB'
 have HD := Aside0.mk e1
 have HC := Aside0.mk e2
 obtain ⟨q0, q1, q2, q3, q4, q5, q6, q7⟩ := box_cells e2
 obtain ⟨r0, r1, r2, r3, r4, r5⟩ := boxR_cells e1
 clear e1 e2 HB'
 obtain ⟨n0, n2⟩ := nodeR (Kd.C_below H0.out.1 HB.out) x1 b1 b2
 go_wp2
 go_ret
 exact ⟨rfl, HB.out⟩
set_option maxHeartbeats 8000000 in
set_option maxRecDepth 100000 in
theorem wrong_l1 (R : Ref) (c : Chg) (w : World) (vs : Array Value) (h : RefAt R w vs) (hk : 0 ≤ c.f0 ∧ c.f0 < 4) (h1 : R.has c.f1 = true) (hkd : (R.n c.f1).f2 = 2) (hs : c.f3.size ≤ 1000000) (hg : goodB c.f3 = false) :
  Calls Try.prog 31 #[.agg vs, .agg (encC c).toArray] w fun e w' => e = .returned (.int .i64 1) ∧ Below w.heap.size w w' := by
 obtain ⟨x0, x1, x2, x3, x4, x5, x6, x7⟩ := c
 simp only at *
 have dk0 : decide (x0 < 0) = false := decide_eq_false (by omega)
 have dk8 : decide (8 < x0) = false := decide_eq_false (by omega)
 have dk4 : decide (x0 < 4) = true := decide_eq_true hk.2
 clear hk
 have cH := fun W (hB : Below w.heap.size w W) => refHas_calls R x1 W vs (h.below hB)
 rw [h1] at cH
 have HX1 := Aside0.mk h1
 clear h1
 have HH := Aside0.mk cH
 clear cH
 unfold Ref.n at hkd
 have dk2 : ((rd_T36 R.N x1).f2 != 2) = false := by rw [bne_eq_false_iff_eq]; exact hkd
 clear hkd
 have cG := fun W => refGood_calls x3 W hs
 rw [hg] at cG
 have HG := Aside0.mk cG
 clear cG hg hs
 have hin1 : 0 ≤ x1 ∧ x1 < R.N.length := of_decide_eq_true HX1.out
 obtain ⟨A0, c0, A1, c1, A2, c2, A3, c3, A4, c4, A5, c5, rfl, h0, h1, h2, h3, h4, h5⟩ := h
 obtain ⟨ad0, he0, _⟩ := at_T36 h0.1 x1 hin1.1 hin1.2
 subst he0
 have b1 := hin1.1
 have b2 := hin1.2
 clear hin1
 have H0 := Aside0.mk h0
 have H1 := Aside0.mk h1
 have H2 := Aside0.mk h2
 obtain ⟨W0, hW0⟩ : ∃ W0 : World, W0 = w.alloc (.cells #[.slice (some ad0) R.N.length c0, .slice A1 R.L.length c1, .slice A2 R.Cov.length c2, .slice A3 R.Dead.length c3, .slice A4 R.Above.length c4, .slice A5 R.Firsts.length c5] TR) := ⟨_, rfl⟩
 have hB0 : Below w.heap.size w W0 := by rw [hW0]; exact (Below.refl _ w).alloc (Nat.le_refl _) _
 have d0 := heap_alloc_new w (.cells #[.slice (some ad0) R.N.length c0, .slice A1 R.L.length c1, .slice A2 R.Cov.length c2, .slice A3 R.Dead.length c3, .slice A4 R.Above.length c4, .slice A5 R.Firsts.length c5] TR)
 rw [← hW0] at d0
 have hs0 : W0.heap.size = w.heap.size + 1 := by rw [hW0]; simp
 obtain ⟨W, hW⟩ : ∃ W : World, W = W0.alloc (.cells #[.int .i64 x0, .int .i64 x1, .int .i64 x2, .string x3, .string x4, .int .i64 x5, .int .i64 x6, .int .i64 x7] TC) := ⟨_, rfl⟩
 have hB1 : Below W0.heap.size W0 W := by rw [hW]; exact (Below.refl _ W0).alloc (Nat.le_refl _) _
 have b0 := heap_alloc_new W0 (.cells #[.int .i64 x0, .int .i64 x1, .int .i64 x2, .string x3, .string x4, .int .i64 x5, .int .i64 x6, .int .i64 x7] TC)
 rw [← hW, hs0] at b0
 have d1 := (hB1.block w.heap.size (by omega)).trans d0
 have HB := Aside0.mk (below_step hB0 hB1)
 obtain ⟨q0, q1, q2, q3, q4, q5, q6, q7⟩ := box_cells b0
 obtain ⟨r0, r1, r2, r3, r4, r5⟩ := boxR_cells d1
 have HD := Aside0.mk d1
 have HC := Aside0.mk b0
 have HS0 := Aside0.mk hs0
 unfold encC
 clear hB0 d0 hB1 b0 d1 h0 h1 h2 h3 h4 h5 hs0
 go_enter Try.func31, Try.ntmps31
 go_wp2_with fail
 rw [← hW0, ← hW]
 clear hW hW0
 refine (HH.out W HB.out).mono ?_
 rintro e w1 ⟨rfl, hb1⟩
 have hlt := blk_lt HC.out
 have e1 := (hb1.block _ (by omega)).trans HD.out
 have e2 := (hb1.block _ hlt).trans HC.out
 have HB' := Aside0.mk (below_step HB.out hb1)
 clear q0 q1 q2 q3 q4 q5 q6 q7 r0 r1 r2 r3 r4 r5 hb1 hlt HB HD HC
 have HB := HB'
 have HD := Aside0.mk e1
 have HC := Aside0.mk e2
 obtain ⟨q0, q1, q2, q3, q4, q5, q6, q7⟩ := box_cells e2
 obtain ⟨r0, r1, r2, r3, r4, r5⟩ := boxR_cells e1
 clear e1 e2 HB'
 obtain ⟨n0, n2⟩ := nodeR (Kd.C_below H0.out.1 HB.out) x1 b1 b2
 go_wp2_with fail
 refine ((HG.out _).mono fun e w' hp => (⟨hp.1, Drawn0.below hp.2⟩ : _ ∧ Below _ _ w')).mono ?_
 rintro e w1 ⟨rfl, hb1⟩
 have hlt := blk_lt HC.out
 have e1 := (hb1.block _ (by omega)).trans HD.out
 have e2 := (hb1.block _ hlt).trans HC.out
 have HB' := Aside0.mk (below_step HB.out hb1)
 clear q0 q1 q2 q3 q4 q5 q6 q7 r0 r1 r2 r3 r4 r5 hb1 hlt HB HD HC
 have HB := HB'
 have HD := Aside0.mk e1
 have HC := Aside0.mk e2
 obtain ⟨q0, q1, q2, q3, q4, q5, q6, q7⟩ := box_cells e2
 obtain ⟨r0, r1, r2, r3, r4, r5⟩ := boxR_cells e1
 clear e1 e2 HB'
 go_wp2
 go_ret
 exact ⟨rfl, HB.out⟩
end Go.Proofs.Ytlfldoghomnbkaa.QVfs
end

section
namespace Go.Proofs.Ytlfldoghomnbkaa.QVfs
open Go.RowKit Go.Proofs.YtlfldoghomnbkaaW.PrintWords Go.Proofs.YtlfldoghomnbkaaW.PrintLast Go.Proofs.YtlfldoghomnbkaaW.PrintMore
set_option linter.unusedVariables false
set_option linter.unusedSimpArgs false
set_option maxHeartbeats 8000000 in
set_option maxRecDepth 100000 in
theorem wrong_m3 (R : Ref) (c : Chg) (w : World) (vs : Array Value) (h : RefAt R w vs) (hk : c.f0 = 7) (hh : R.has c.f2 = true) (hO : R.Cov.length = R.N.length) (hkd : (R.n c.f2).f2 ≠ 2) :
  Calls Try.prog 31 #[.agg vs, .agg (encC c).toArray] w fun e w' => e = .returned (.int .i64 3) ∧ Below w.heap.size w w' := by
 obtain ⟨x0, x1, x2, x3, x4, x5, x6, x7⟩ := c
 simp only at *
 subst hk
 have hin : 0 ≤ x2 ∧ x2 < R.N.length := of_decide_eq_true hh
 have HO := Aside0.mk hO
 clear hO
 have cH := fun W (hB : Below w.heap.size w W) => refHas_calls R x2 W vs (h.below hB)
 rw [hh] at cH
 have HX2 := Aside0.mk hh
 clear hh
 have HH := Aside0.mk cH
 clear cH
 unfold Ref.n at hkd
 have dk2 : ((rd_T36 R.N x2).f2 != 2) = true := by rw [bne_iff_ne]; exact hkd
 clear hkd
 obtain ⟨A0, c0, A1, c1, A2, c2, A3, c3, A4, c4, A5, c5, rfl, h0, h1, h2, h3, h4, h5⟩ := h
 obtain ⟨ad0, he0, _⟩ := at_T36 h0.1 x2 hin.1 hin.2
 subst he0
 obtain ⟨ad2, he2, _⟩ := Kd.at_int h2.1 x2 hin.1 (by rw [HO.out]; exact hin.2)
 subst he2
 have b1 := hin.1
 have b2 := hin.2
 have b3 : x2 < (R.Cov.length : Int) := by rw [HO.out]; exact hin.2
 clear hin
 have H0 := Aside0.mk h0
 have H1 := Aside0.mk h1
 have H2 := Aside0.mk h2
 obtain ⟨W0, hW0⟩ : ∃ W0 : World, W0 = w.alloc (.cells #[.slice (some ad0) R.N.length c0, .slice A1 R.L.length c1, .slice (some ad2) R.Cov.length c2, .slice A3 R.Dead.length c3, .slice A4 R.Above.length c4, .slice A5 R.Firsts.length c5] TR) := ⟨_, rfl⟩
 have hB0 : Below w.heap.size w W0 := by rw [hW0]; exact (Below.refl _ w).alloc (Nat.le_refl _) _
 have d0 := heap_alloc_new w (.cells #[.slice (some ad0) R.N.length c0, .slice A1 R.L.length c1, .slice (some ad2) R.Cov.length c2, .slice A3 R.Dead.length c3, .slice A4 R.Above.length c4, .slice A5 R.Firsts.length c5] TR)
 rw [← hW0] at d0
 have hs0 : W0.heap.size = w.heap.size + 1 := by rw [hW0]; simp
 obtain ⟨W, hW⟩ : ∃ W : World, W = W0.alloc (.cells #[.int .i64 7, .int .i64 x1, .int .i64 x2, .string x3, .string x4, .int .i64 x5, .int .i64 x6, .int .i64 x7] TC) := ⟨_, rfl⟩
 have hB1 : Below W0.heap.size W0 W := by rw [hW]; exact (Below.refl _ W0).alloc (Nat.le_refl _) _
 have b0 := heap_alloc_new W0 (.cells #[.int .i64 7, .int .i64 x1, .int .i64 x2, .string x3, .string x4, .int .i64 x5, .int .i64 x6, .int .i64 x7] TC)
 rw [← hW, hs0] at b0
 have d1 := (hB1.block w.heap.size (by omega)).trans d0
 have HB := Aside0.mk (below_step hB0 hB1)
 obtain ⟨q0, q1, q2, q3, q4, q5, q6, q7⟩ := box_cells b0
 obtain ⟨r0, r1, r2, r3, r4, r5⟩ := boxR_cells d1
 have HD := Aside0.mk d1
 have HC := Aside0.mk b0
 have HS0 := Aside0.mk hs0
 unfold encC
 clear hB0 d0 hB1 b0 d1 h0 h1 h2 h3 h4 h5 hs0
 go_enter Try.func31, Try.ntmps31
 go_wp2_with fail
 rw [← hW0, ← hW]
 clear hW hW0
 refine (HH.out W HB.out).mono ?_
 rintro e w1 ⟨rfl, hb1⟩
 have hlt := blk_lt HC.out
 have e1 := (hb1.block _ (by omega)).trans HD.out
 have e2 := (hb1.block _ hlt).trans HC.out
 have HB' := Aside0.mk (below_step HB.out hb1)
 clear q0 q1 q2 q3 q4 q5 q6 q7 r0 r1 r2 r3 r4 r5 hb1 hlt HB HD HC
 have HB := HB'
 have HD := Aside0.mk e1
 have HC := Aside0.mk e2
 obtain ⟨q0, q1, q2, q3, q4, q5, q6, q7⟩ := box_cells e2
 obtain ⟨r0, r1, r2, r3, r4, r5⟩ := boxR_cells e1
 clear e1 e2 HB'
 obtain ⟨n0, n2⟩ := nodeR (Kd.C_below H0.out.1 HB.out) x2 b1 b2
 have ncv := intR (Kd.C_below H2.out.1 HB.out) x2 b1 b3
 go_wp2
 go_ret
 exact ⟨rfl, HB.out⟩
set_option maxHeartbeats 8000000 in
set_option maxRecDepth 100000 in
theorem wrong_m1 (R : Ref) (c : Chg) (w : World) (vs : Array Value) (h : RefAt R w vs) (hk : c.f0 = 7) (hh : R.has c.f2 = true) (hO : R.Cov.length = R.N.length) (hkd : (R.n c.f2).f2 = 2) (hcv : 0 ≤ rd R.Cov c.f2) :
  Calls Try.prog 31 #[.agg vs, .agg (encC c).toArray] w fun e w' => e = .returned (.int .i64 1) ∧ Below w.heap.size w w' := by
 obtain ⟨x0, x1, x2, x3, x4, x5, x6, x7⟩ := c
 simp only at *
 subst hk
 have hin : 0 ≤ x2 ∧ x2 < R.N.length := of_decide_eq_true hh
 have HO := Aside0.mk hO
 clear hO
 have cH := fun W (hB : Below w.heap.size w W) => refHas_calls R x2 W vs (h.below hB)
 rw [hh] at cH
 have HX2 := Aside0.mk hh
 clear hh
 have HH := Aside0.mk cH
 clear cH
 unfold Ref.n at hkd
 have dk2 : ((rd_T36 R.N x2).f2 != 2) = false := by rw [bne_eq_false_iff_eq]; exact hkd
 clear hkd
 have dcv : decide (0 ≤ rd R.Cov x2) = true := decide_eq_true hcv
 clear hcv
 obtain ⟨A0, c0, A1, c1, A2, c2, A3, c3, A4, c4, A5, c5, rfl, h0, h1, h2, h3, h4, h5⟩ := h
 obtain ⟨ad0, he0, _⟩ := at_T36 h0.1 x2 hin.1 hin.2
 subst he0
 obtain ⟨ad2, he2, _⟩ := Kd.at_int h2.1 x2 hin.1 (by rw [HO.out]; exact hin.2)
 subst he2
 have b1 := hin.1
 have b2 := hin.2
 have b3 : x2 < (R.Cov.length : Int) := by rw [HO.out]; exact hin.2
 clear hin
 have H0 := Aside0.mk h0
 have H1 := Aside0.mk h1
 have H2 := Aside0.mk h2
 obtain ⟨W0, hW0⟩ : ∃ W0 : World, W0 = w.alloc (.cells #[.slice (some ad0) R.N.length c0, .slice A1 R.L.length c1, .slice (some ad2) R.Cov.length c2, .slice A3 R.Dead.length c3, .slice A4 R.Above.length c4, .slice A5 R.Firsts.length c5] TR) := ⟨_, rfl⟩
 have hB0 : Below w.heap.size w W0 := by rw [hW0]; exact (Below.refl _ w).alloc (Nat.le_refl _) _
 have d0 := heap_alloc_new w (.cells #[.slice (some ad0) R.N.length c0, .slice A1 R.L.length c1, .slice (some ad2) R.Cov.length c2, .slice A3 R.Dead.length c3, .slice A4 R.Above.length c4, .slice A5 R.Firsts.length c5] TR)
 rw [← hW0] at d0
 have hs0 : W0.heap.size = w.heap.size + 1 := by rw [hW0]; simp
 obtain ⟨W, hW⟩ : ∃ W : World, W = W0.alloc (.cells #[.int .i64 7, .int .i64 x1, .int .i64 x2, .string x3, .string x4, .int .i64 x5, .int .i64 x6, .int .i64 x7] TC) := ⟨_, rfl⟩
 have hB1 : Below W0.heap.size W0 W := by rw [hW]; exact (Below.refl _ W0).alloc (Nat.le_refl _) _
 have b0 := heap_alloc_new W0 (.cells #[.int .i64 7, .int .i64 x1, .int .i64 x2, .string x3, .string x4, .int .i64 x5, .int .i64 x6, .int .i64 x7] TC)
 rw [← hW, hs0] at b0
 have d1 := (hB1.block w.heap.size (by omega)).trans d0
 have HB := Aside0.mk (below_step hB0 hB1)
 obtain ⟨q0, q1, q2, q3, q4, q5, q6, q7⟩ := box_cells b0
 obtain ⟨r0, r1, r2, r3, r4, r5⟩ := boxR_cells d1
 have HD := Aside0.mk d1
 have HC := Aside0.mk b0
 have HS0 := Aside0.mk hs0
 unfold encC
 clear hB0 d0 hB1 b0 d1 h0 h1 h2 h3 h4 h5 hs0
 go_enter Try.func31, Try.ntmps31
 go_wp2_with fail
 rw [← hW0, ← hW]
 clear hW hW0
 refine (HH.out W HB.out).mono ?_
 rintro e w1 ⟨rfl, hb1⟩
 have hlt := blk_lt HC.out
 have e1 := (hb1.block _ (by omega)).trans HD.out
 have e2 := (hb1.block _ hlt).trans HC.out
 have HB' := Aside0.mk (below_step HB.out hb1)
 clear q0 q1 q2 q3 q4 q5 q6 q7 r0 r1 r2 r3 r4 r5 hb1 hlt HB HD HC
 have HB := HB'
 have HD := Aside0.mk e1
 have HC := Aside0.mk e2
 obtain ⟨q0, q1, q2, q3, q4, q5, q6, q7⟩ := box_cells e2
 obtain ⟨r0, r1, r2, r3, r4, r5⟩ := boxR_cells e1
 clear e1 e2 HB'
 obtain ⟨n0, n2⟩ := nodeR (Kd.C_below H0.out.1 HB.out) x2 b1 b2
 have ncv := intR (Kd.C_below H2.out.1 HB.out) x2 b1 b3
 go_wp2
 simp only [List.append]
 go_big_quiet (fail)
 go_wp2
 go_ret
 exact ⟨rfl, below_step HB.out (by repeat (first | exact Below.refl _ _ | apply pw_below_drewN | apply below_drew1))⟩
set_option maxHeartbeats 8000000 in
set_option maxRecDepth 100000 in
theorem wrong_mf (R : Ref) (c : Chg) (w : World) (vs : Array Value) (h : RefAt R w vs) (hk : c.f0 = 7) (hh : R.has c.f2 = true) (hO : R.Cov.length = R.N.length) (hkd : (R.n c.f2).f2 = 2) (hcv : rd R.Cov c.f2 < 0) (hf : R.Firsts.contains c.f2 = true) (hl : R.Firsts.length ≤ 1000) :
  Calls Try.prog 31 #[.agg vs, .agg (encC c).toArray] w fun e w' => e = .returned (.int .i64 1) ∧ Below w.heap.size w w' := by
 obtain ⟨x0, x1, x2, x3, x4, x5, x6, x7⟩ := c
 simp only at *
 subst hk
 have hin : 0 ≤ x2 ∧ x2 < R.N.length := of_decide_eq_true hh
 have HO := Aside0.mk hO
 clear hO
 have cF := fun W (hB : Below w.heap.size w W) => refFirst_calls R x2 W vs (h.below hB) hl
 rw [hf] at cF
 have HF := Aside0.mk cF
 clear cF hf
 have cH := fun W (hB : Below w.heap.size w W) => refHas_calls R x2 W vs (h.below hB)
 rw [hh] at cH
 have HX2 := Aside0.mk hh
 clear hh
 have HH := Aside0.mk cH
 clear cH
 unfold Ref.n at hkd
 have dk2 : ((rd_T36 R.N x2).f2 != 2) = false := by rw [bne_eq_false_iff_eq]; exact hkd
 clear hkd
 have dcv : decide (0 ≤ rd R.Cov x2) = false := decide_eq_false (by omega)
 clear hcv
 obtain ⟨A0, c0, A1, c1, A2, c2, A3, c3, A4, c4, A5, c5, rfl, h0, h1, h2, h3, h4, h5⟩ := h
 obtain ⟨ad0, he0, _⟩ := at_T36 h0.1 x2 hin.1 hin.2
 subst he0
 obtain ⟨ad2, he2, _⟩ := Kd.at_int h2.1 x2 hin.1 (by rw [HO.out]; exact hin.2)
 subst he2
 have b1 := hin.1
 have b2 := hin.2
 have b3 : x2 < (R.Cov.length : Int) := by rw [HO.out]; exact hin.2
 clear hin
 have H0 := Aside0.mk h0
 have H1 := Aside0.mk h1
 have H2 := Aside0.mk h2
 obtain ⟨W0, hW0⟩ : ∃ W0 : World, W0 = w.alloc (.cells #[.slice (some ad0) R.N.length c0, .slice A1 R.L.length c1, .slice (some ad2) R.Cov.length c2, .slice A3 R.Dead.length c3, .slice A4 R.Above.length c4, .slice A5 R.Firsts.length c5] TR) := ⟨_, rfl⟩
 have hB0 : Below w.heap.size w W0 := by rw [hW0]; exact (Below.refl _ w).alloc (Nat.le_refl _) _
 have d0 := heap_alloc_new w (.cells #[.slice (some ad0) R.N.length c0, .slice A1 R.L.length c1, .slice (some ad2) R.Cov.length c2, .slice A3 R.Dead.length c3, .slice A4 R.Above.length c4, .slice A5 R.Firsts.length c5] TR)
 rw [← hW0] at d0
 have hs0 : W0.heap.size = w.heap.size + 1 := by rw [hW0]; simp
 obtain ⟨W, hW⟩ : ∃ W : World, W = W0.alloc (.cells #[.int .i64 7, .int .i64 x1, .int .i64 x2, .string x3, .string x4, .int .i64 x5, .int .i64 x6, .int .i64 x7] TC) := ⟨_, rfl⟩
 have hB1 : Below W0.heap.size W0 W := by rw [hW]; exact (Below.refl _ W0).alloc (Nat.le_refl _) _
 have b0 := heap_alloc_new W0 (.cells #[.int .i64 7, .int .i64 x1, .int .i64 x2, .string x3, .string x4, .int .i64 x5, .int .i64 x6, .int .i64 x7] TC)
 rw [← hW, hs0] at b0
 have d1 := (hB1.block w.heap.size (by omega)).trans d0
 have HB := Aside0.mk (below_step hB0 hB1)
 obtain ⟨q0, q1, q2, q3, q4, q5, q6, q7⟩ := box_cells b0
 obtain ⟨r0, r1, r2, r3, r4, r5⟩ := boxR_cells d1
 have HD := Aside0.mk d1
 have HC := Aside0.mk b0
 have HS0 := Aside0.mk hs0
 unfold encC
 clear hB0 d0 hB1 b0 d1 h0 h1 h2 h3 h4 h5 hs0
 go_enter Try.func31, Try.ntmps31
 go_wp2_with fail
 rw [← hW0, ← hW]
 clear hW hW0
 refine (HH.out W HB.out).mono ?_
 rintro e w1 ⟨rfl, hb1⟩
 have hlt := blk_lt HC.out
 have e1 := (hb1.block _ (by omega)).trans HD.out
 have e2 := (hb1.block _ hlt).trans HC.out
 have HB' := Aside0.mk (below_step HB.out hb1)
 clear q0 q1 q2 q3 q4 q5 q6 q7 r0 r1 r2 r3 r4 r5 hb1 hlt HB HD HC
 have HB := HB'
 have HD := Aside0.mk e1
 have HC := Aside0.mk e2
 obtain ⟨q0, q1, q2, q3, q4, q5, q6, q7⟩ := box_cells e2
 obtain ⟨r0, r1, r2, r3, r4, r5⟩ := boxR_cells e1
 clear e1 e2 HB'
 obtain ⟨n0, n2⟩ := nodeR (Kd.C_below H0.out.1 HB.out) x2 b1 b2
 have ncv := intR (Kd.C_below H2.out.1 HB.out) x2 b1 b3
 go_wp2
 simp only [List.append]
 have q0x := Ext.cell q0
 have q2x := Ext.cell q2
 have r0x := Ext.cell r0
 have r1x := Ext.cell r1
 have r2x := Ext.cell r2
 have r3x := Ext.cell r3
 have r4x := Ext.cell r4
 have r5x := Ext.cell r5
 have ncvx := Ext.cell ncv
 clear q0 q1 q2 q3 q4 q5 q6 q7 r0 r1 r2 r3 r4 r5 ncv n0 n2
 refine wp_region_ext (by kernel_rfl) (by kernel_rfl) ?_
 repeat (go_big_quiet_step ((rename_i x; exact Ext.call x (HF.out _ (below_step HB.out x.bel)))))
 refine wpQuiet_nil ?_
 rintro _ ⟨⟨w2, hb2⟩, rfl⟩
 clear q0x q2x r0x r1x r2x r3x r4x r5x ncvx
 have HB' := Aside0.mk (below_step HB.out hb2)
 have hlt := blk_lt HC.out
 have e1 := (hb2.block _ (by omega)).trans HD.out
 have e2 := (hb2.block _ hlt).trans HC.out
 clear hb2 hlt HB HD HC
 have HB := HB'
 have HD := Aside0.mk e1
 have HC := Aside0.mk e2
 obtain ⟨q0, q1, q2, q3, q4, q5, q6, q7⟩ := box_cells e2
 obtain ⟨r0, r1, r2, r3, r4, r5⟩ := boxR_cells e1
 clear e1 e2 HB'
 go_wp2
 go_ret
 exact ⟨rfl, HB.out⟩
set_option maxHeartbeats 8000000 in
set_option maxRecDepth 100000 in
theorem wrong_many7 (R : Ref) (c : Chg) (w : World) (vs : Array Value) (h : RefAt R w vs) (hk : c.f0 = 7) (hh : R.has c.f2 = true) (hO : R.Cov.length = R.N.length) (hkd : (R.n c.f2).f2 = 2) (hcv : rd R.Cov c.f2 < 0) (hf : R.Firsts.contains c.f2 = false) (hl : R.Firsts.length ≤ 1000) (hm : 300 ≤ R.N.length) :
  Calls Try.prog 31 #[.agg vs, .agg (encC c).toArray] w fun e w' => e = .returned (.int .i64 9) ∧ Below w.heap.size w w' := by
 obtain ⟨x0, x1, x2, x3, x4, x5, x6, x7⟩ := c
 simp only at *
 subst hk
 have hin : 0 ≤ x2 ∧ x2 < R.N.length := of_decide_eq_true hh
 have HO := Aside0.mk hO
 clear hO
 have cF := fun W (hB : Below w.heap.size w W) => refFirst_calls R x2 W vs (h.below hB) hl
 rw [hf] at cF
 have HF := Aside0.mk cF
 clear cF hf
 have cH := fun W (hB : Below w.heap.size w W) => refHas_calls R x2 W vs (h.below hB)
 rw [hh] at cH
 have HX2 := Aside0.mk hh
 clear hh
 have HH := Aside0.mk cH
 clear cH
 have dm : decide ((300 : Int) ≤ (R.N.length : Int)) = true := decide_eq_true (by omega)
 clear hm
 unfold Ref.n at hkd
 have dk2 : ((rd_T36 R.N x2).f2 != 2) = false := by rw [bne_eq_false_iff_eq]; exact hkd
 clear hkd
 have dcv : decide (0 ≤ rd R.Cov x2) = false := decide_eq_false (by omega)
 clear hcv
 obtain ⟨A0, c0, A1, c1, A2, c2, A3, c3, A4, c4, A5, c5, rfl, h0, h1, h2, h3, h4, h5⟩ := h
 obtain ⟨ad0, he0, _⟩ := at_T36 h0.1 x2 hin.1 hin.2
 subst he0
 obtain ⟨ad2, he2, _⟩ := Kd.at_int h2.1 x2 hin.1 (by rw [HO.out]; exact hin.2)
 subst he2
 have b1 := hin.1
 have b2 := hin.2
 have b3 : x2 < (R.Cov.length : Int) := by rw [HO.out]; exact hin.2
 clear hin
 have H0 := Aside0.mk h0
 have H1 := Aside0.mk h1
 have H2 := Aside0.mk h2
 obtain ⟨W0, hW0⟩ : ∃ W0 : World, W0 = w.alloc (.cells #[.slice (some ad0) R.N.length c0, .slice A1 R.L.length c1, .slice (some ad2) R.Cov.length c2, .slice A3 R.Dead.length c3, .slice A4 R.Above.length c4, .slice A5 R.Firsts.length c5] TR) := ⟨_, rfl⟩
 have hB0 : Below w.heap.size w W0 := by rw [hW0]; exact (Below.refl _ w).alloc (Nat.le_refl _) _
 have d0 := heap_alloc_new w (.cells #[.slice (some ad0) R.N.length c0, .slice A1 R.L.length c1, .slice (some ad2) R.Cov.length c2, .slice A3 R.Dead.length c3, .slice A4 R.Above.length c4, .slice A5 R.Firsts.length c5] TR)
 rw [← hW0] at d0
 have hs0 : W0.heap.size = w.heap.size + 1 := by rw [hW0]; simp
 obtain ⟨W, hW⟩ : ∃ W : World, W = W0.alloc (.cells #[.int .i64 7, .int .i64 x1, .int .i64 x2, .string x3, .string x4, .int .i64 x5, .int .i64 x6, .int .i64 x7] TC) := ⟨_, rfl⟩
 have hB1 : Below W0.heap.size W0 W := by rw [hW]; exact (Below.refl _ W0).alloc (Nat.le_refl _) _
 have b0 := heap_alloc_new W0 (.cells #[.int .i64 7, .int .i64 x1, .int .i64 x2, .string x3, .string x4, .int .i64 x5, .int .i64 x6, .int .i64 x7] TC)
 rw [← hW, hs0] at b0
 have d1 := (hB1.block w.heap.size (by omega)).trans d0
 have HB := Aside0.mk (below_step hB0 hB1)
 obtain ⟨q0, q1, q2, q3, q4, q5, q6, q7⟩ := box_cells b0
 obtain ⟨r0, r1, r2, r3, r4, r5⟩ := boxR_cells d1
 have HD := Aside0.mk d1
 have HC := Aside0.mk b0
 have HS0 := Aside0.mk hs0
 unfold encC
 clear hB0 d0 hB1 b0 d1 h0 h1 h2 h3 h4 h5 hs0
 go_enter Try.func31, Try.ntmps31
 go_wp2_with fail
 rw [← hW0, ← hW]
 clear hW hW0
 refine (HH.out W HB.out).mono ?_
 rintro e w1 ⟨rfl, hb1⟩
 have hlt := blk_lt HC.out
 have e1 := (hb1.block _ (by omega)).trans HD.out
 have e2 := (hb1.block _ hlt).trans HC.out
 have HB' := Aside0.mk (below_step HB.out hb1)
 clear q0 q1 q2 q3 q4 q5 q6 q7 r0 r1 r2 r3 r4 r5 hb1 hlt HB HD HC
 have HB := HB'
 have HD := Aside0.mk e1
 have HC := Aside0.mk e2
 obtain ⟨q0, q1, q2, q3, q4, q5, q6, q7⟩ := box_cells e2
 obtain ⟨r0, r1, r2, r3, r4, r5⟩ := boxR_cells e1
 clear e1 e2 HB'
 obtain ⟨n0, n2⟩ := nodeR (Kd.C_below H0.out.1 HB.out) x2 b1 b2
 have ncv := intR (Kd.C_below H2.out.1 HB.out) x2 b1 b3
 go_wp2
 simp only [List.append]
 have q0x := Ext.cell q0
 have q2x := Ext.cell q2
 have r0x := Ext.cell r0
 have r1x := Ext.cell r1
 have r2x := Ext.cell r2
 have r3x := Ext.cell r3
 have r4x := Ext.cell r4
 have r5x := Ext.cell r5
 have ncvx := Ext.cell ncv
 clear q0 q1 q2 q3 q4 q5 q6 q7 r0 r1 r2 r3 r4 r5 ncv n0 n2
 refine wp_region_ext (by kernel_rfl) (by kernel_rfl) ?_
 repeat (go_big_quiet_step ((rename_i x; exact Ext.call x (HF.out _ (below_step HB.out x.bel)))))
 refine wpQuiet_nil ?_
 rintro _ ⟨⟨w2, hb2⟩, rfl⟩
 clear q0x q2x r0x r1x r2x r3x r4x r5x ncvx
 have HB' := Aside0.mk (below_step HB.out hb2)
 have hlt := blk_lt HC.out
 have e1 := (hb2.block _ (by omega)).trans HD.out
 have e2 := (hb2.block _ hlt).trans HC.out
 clear hb2 hlt HB HD HC
 have HB := HB'
 have HD := Aside0.mk e1
 have HC := Aside0.mk e2
 obtain ⟨q0, q1, q2, q3, q4, q5, q6, q7⟩ := box_cells e2
 obtain ⟨r0, r1, r2, r3, r4, r5⟩ := boxR_cells e1
 clear e1 e2 HB'
 go_wp2
 go_ret
 exact ⟨rfl, HB.out⟩
set_option maxHeartbeats 8000000 in
set_option maxRecDepth 100000 in
theorem wrong_ok7 (R : Ref) (c : Chg) (w : World) (vs : Array Value) (h : RefAt R w vs) (hk : c.f0 = 7) (hh : R.has c.f2 = true) (hO : R.Cov.length = R.N.length) (hkd : (R.n c.f2).f2 = 2) (hcv : rd R.Cov c.f2 < 0) (hf : R.Firsts.contains c.f2 = false) (hl : R.Firsts.length ≤ 1000) (hm : R.N.length < 300) :
  Calls Try.prog 31 #[.agg vs, .agg (encC c).toArray] w fun e w' => e = .returned (.int .i64 0) ∧ Below w.heap.size w w' := by
 obtain ⟨x0, x1, x2, x3, x4, x5, x6, x7⟩ := c
 simp only at *
 subst hk
 have hin : 0 ≤ x2 ∧ x2 < R.N.length := of_decide_eq_true hh
 have HO := Aside0.mk hO
 clear hO
 have cF := fun W (hB : Below w.heap.size w W) => refFirst_calls R x2 W vs (h.below hB) hl
 rw [hf] at cF
 have HF := Aside0.mk cF
 clear cF hf
 have cH := fun W (hB : Below w.heap.size w W) => refHas_calls R x2 W vs (h.below hB)
 rw [hh] at cH
 have HX2 := Aside0.mk hh
 clear hh
 have HH := Aside0.mk cH
 clear cH
 have dm : decide ((300 : Int) ≤ (R.N.length : Int)) = false := decide_eq_false (by omega)
 clear hm
 unfold Ref.n at hkd
 have dk2 : ((rd_T36 R.N x2).f2 != 2) = false := by rw [bne_eq_false_iff_eq]; exact hkd
 clear hkd
 have dcv : decide (0 ≤ rd R.Cov x2) = false := decide_eq_false (by omega)
 clear hcv
 obtain ⟨A0, c0, A1, c1, A2, c2, A3, c3, A4, c4, A5, c5, rfl, h0, h1, h2, h3, h4, h5⟩ := h
 obtain ⟨ad0, he0, _⟩ := at_T36 h0.1 x2 hin.1 hin.2
 subst he0
 obtain ⟨ad2, he2, _⟩ := Kd.at_int h2.1 x2 hin.1 (by rw [HO.out]; exact hin.2)
 subst he2
 have b1 := hin.1
 have b2 := hin.2
 have b3 : x2 < (R.Cov.length : Int) := by rw [HO.out]; exact hin.2
 clear hin
 have H0 := Aside0.mk h0
 have H1 := Aside0.mk h1
 have H2 := Aside0.mk h2
 obtain ⟨W0, hW0⟩ : ∃ W0 : World, W0 = w.alloc (.cells #[.slice (some ad0) R.N.length c0, .slice A1 R.L.length c1, .slice (some ad2) R.Cov.length c2, .slice A3 R.Dead.length c3, .slice A4 R.Above.length c4, .slice A5 R.Firsts.length c5] TR) := ⟨_, rfl⟩
 have hB0 : Below w.heap.size w W0 := by rw [hW0]; exact (Below.refl _ w).alloc (Nat.le_refl _) _
 have d0 := heap_alloc_new w (.cells #[.slice (some ad0) R.N.length c0, .slice A1 R.L.length c1, .slice (some ad2) R.Cov.length c2, .slice A3 R.Dead.length c3, .slice A4 R.Above.length c4, .slice A5 R.Firsts.length c5] TR)
 rw [← hW0] at d0
 have hs0 : W0.heap.size = w.heap.size + 1 := by rw [hW0]; simp
 obtain ⟨W, hW⟩ : ∃ W : World, W = W0.alloc (.cells #[.int .i64 7, .int .i64 x1, .int .i64 x2, .string x3, .string x4, .int .i64 x5, .int .i64 x6, .int .i64 x7] TC) := ⟨_, rfl⟩
 have hB1 : Below W0.heap.size W0 W := by rw [hW]; exact (Below.refl _ W0).alloc (Nat.le_refl _) _
 have b0 := heap_alloc_new W0 (.cells #[.int .i64 7, .int .i64 x1, .int .i64 x2, .string x3, .string x4, .int .i64 x5, .int .i64 x6, .int .i64 x7] TC)
 rw [← hW, hs0] at b0
 have d1 := (hB1.block w.heap.size (by omega)).trans d0
 have HB := Aside0.mk (below_step hB0 hB1)
 obtain ⟨q0, q1, q2, q3, q4, q5, q6, q7⟩ := box_cells b0
 obtain ⟨r0, r1, r2, r3, r4, r5⟩ := boxR_cells d1
 have HD := Aside0.mk d1
 have HC := Aside0.mk b0
 have HS0 := Aside0.mk hs0
 unfold encC
 clear hB0 d0 hB1 b0 d1 h0 h1 h2 h3 h4 h5 hs0
 go_enter Try.func31, Try.ntmps31
 go_wp2_with fail
 rw [← hW0, ← hW]
 clear hW hW0
 refine (HH.out W HB.out).mono ?_
 rintro e w1 ⟨rfl, hb1⟩
 have hlt := blk_lt HC.out
 have e1 := (hb1.block _ (by omega)).trans HD.out
 have e2 := (hb1.block _ hlt).trans HC.out
 have HB' := Aside0.mk (below_step HB.out hb1)
 clear q0 q1 q2 q3 q4 q5 q6 q7 r0 r1 r2 r3 r4 r5 hb1 hlt HB HD HC
 have HB := HB'
 have HD := Aside0.mk e1
 have HC := Aside0.mk e2
 obtain ⟨q0, q1, q2, q3, q4, q5, q6, q7⟩ := box_cells e2
 obtain ⟨r0, r1, r2, r3, r4, r5⟩ := boxR_cells e1
 clear e1 e2 HB'
 obtain ⟨n0, n2⟩ := nodeR (Kd.C_below H0.out.1 HB.out) x2 b1 b2
 have ncv := intR (Kd.C_below H2.out.1 HB.out) x2 b1 b3
 go_wp2
 simp only [List.append]
 have q0x := Ext.cell q0
 have q2x := Ext.cell q2
 have r0x := Ext.cell r0
 have r1x := Ext.cell r1
 have r2x := Ext.cell r2
 have r3x := Ext.cell r3
 have r4x := Ext.cell r4
 have r5x := Ext.cell r5
 have ncvx := Ext.cell ncv
 clear q0 q1 q2 q3 q4 q5 q6 q7 r0 r1 r2 r3 r4 r5 ncv n0 n2
 refine wp_region_ext (by kernel_rfl) (by kernel_rfl) ?_
 repeat (go_big_quiet_step ((rename_i x; exact Ext.call x (HF.out _ (below_step HB.out x.bel)))))
 refine wpQuiet_nil ?_
 rintro _ ⟨⟨w2, hb2⟩, rfl⟩
 clear q0x q2x r0x r1x r2x r3x r4x r5x ncvx
 have HB' := Aside0.mk (below_step HB.out hb2)
 have hlt := blk_lt HC.out
 have e1 := (hb2.block _ (by omega)).trans HD.out
 have e2 := (hb2.block _ hlt).trans HC.out
 clear hb2 hlt HB HD HC
 have HB := HB'
 have HD := Aside0.mk e1
 have HC := Aside0.mk e2
 obtain ⟨q0, q1, q2, q3, q4, q5, q6, q7⟩ := box_cells e2
 obtain ⟨r0, r1, r2, r3, r4, r5⟩ := boxR_cells e1
 clear e1 e2 HB'
 go_wp2
 go_ret
 exact ⟨rfl, HB.out⟩
end Go.Proofs.Ytlfldoghomnbkaa.QVfs
end

section
namespace Go.Proofs.Ytlfldoghomnbkaa.QVfs
open Go.RowKit Go.Proofs.YtlfldoghomnbkaaW.PrintWords Go.Proofs.YtlfldoghomnbkaaW.PrintLast Go.Proofs.YtlfldoghomnbkaaW.PrintMore
set_option linter.unusedVariables false
set_option linter.unusedSimpArgs false
set_option maxHeartbeats 8000000 in
set_option maxRecDepth 100000 in
theorem wrong_none4 (R : Ref) (c : Chg) (w : World) (vs : Array Value) (h : RefAt R w vs) (hk : c.f0 = 4) (hh : R.has c.f2 = false) :
  Calls Try.prog 31 #[.agg vs, .agg (encC c).toArray] w fun e w' => e = .returned (.int .i64 2) ∧ Below w.heap.size w w' := by
 obtain ⟨x0, x1, x2, x3, x4, x5, x6, x7⟩ := c
 simp only at *
 subst hk
 have cH := fun W (hB : Below w.heap.size w W) => refHas_calls R x2 W vs (h.below hB)
 rw [hh] at cH
 have HX2 := Aside0.mk hh
 clear hh
 have HH := Aside0.mk cH
 clear cH
 obtain ⟨A0, c0, A1, c1, A2, c2, A3, c3, A4, c4, A5, c5, rfl, h0, h1, h2, h3, h4, h5⟩ := h
 have H0 := Aside0.mk h0
 have H1 := Aside0.mk h1
 have H2 := Aside0.mk h2
 obtain ⟨W0, hW0⟩ : ∃ W0 : World, W0 = w.alloc (.cells #[.slice A0 R.N.length c0, .slice A1 R.L.length c1, .slice A2 R.Cov.length c2, .slice A3 R.Dead.length c3, .slice A4 R.Above.length c4, .slice A5 R.Firsts.length c5] TR) := ⟨_, rfl⟩
 have hB0 : Below w.heap.size w W0 := by rw [hW0]; exact (Below.refl _ w).alloc (Nat.le_refl _) _
 have d0 := heap_alloc_new w (.cells #[.slice A0 R.N.length c0, .slice A1 R.L.length c1, .slice A2 R.Cov.length c2, .slice A3 R.Dead.length c3, .slice A4 R.Above.length c4, .slice A5 R.Firsts.length c5] TR)
 rw [← hW0] at d0
 have hs0 : W0.heap.size = w.heap.size + 1 := by rw [hW0]; simp
 obtain ⟨W, hW⟩ : ∃ W : World, W = W0.alloc (.cells #[.int .i64 4, .int .i64 x1, .int .i64 x2, .string x3, .string x4, .int .i64 x5, .int .i64 x6, .int .i64 x7] TC) := ⟨_, rfl⟩
 have hB1 : Below W0.heap.size W0 W := by rw [hW]; exact (Below.refl _ W0).alloc (Nat.le_refl _) _
 have b0 := heap_alloc_new W0 (.cells #[.int .i64 4, .int .i64 x1, .int .i64 x2, .string x3, .string x4, .int .i64 x5, .int .i64 x6, .int .i64 x7] TC)
 rw [← hW, hs0] at b0
 have d1 := (hB1.block w.heap.size (by omega)).trans d0
 have HB := Aside0.mk (below_step hB0 hB1)
 obtain ⟨q0, q1, q2, q3, q4, q5, q6, q7⟩ := box_cells b0
 obtain ⟨r0, r1, r2, r3, r4, r5⟩ := boxR_cells d1
 have HD := Aside0.mk d1
 have HC := Aside0.mk b0
 have HS0 := Aside0.mk hs0
 unfold encC
 clear hB0 d0 hB1 b0 d1 h0 h1 h2 h3 h4 h5 hs0
 go_enter Try.func31, Try.ntmps31
 go_wp2_with fail
 rw [← hW0, ← hW]
 clear hW hW0
 refine (HH.out W HB.out).mono ?_
 rintro e w1 ⟨rfl, hb1⟩
 have hlt := blk_lt HC.out
 have e1 := (hb1.block _ (by omega)).trans HD.out
 have e2 := (hb1.block _ hlt).trans HC.out
 have HB' := Aside0.mk (below_step HB.out hb1)
 clear q0 q1 q2 q3 q4 q5 q6 q7 r0 r1 r2 r3 r4 r5 hb1 hlt HB HD HC
 have HB := HB'
 have HD := Aside0.mk e1
 have HC := Aside0.mk e2
 obtain ⟨q0, q1, q2, q3, q4, q5, q6, q7⟩ := box_cells e2
 obtain ⟨r0, r1, r2, r3, r4, r5⟩ := boxR_cells e1
 clear e1 e2 HB'
 go_wp2
 go_ret
 exact ⟨rfl, HB.out⟩
set_option maxHeartbeats 8000000 in
set_option maxRecDepth 100000 in
theorem wrong_none5 (R : Ref) (c : Chg) (w : World) (vs : Array Value) (h : RefAt R w vs) (hk : c.f0 = 5) (hh : R.has c.f2 = false) :
  Calls Try.prog 31 #[.agg vs, .agg (encC c).toArray] w fun e w' => e = .returned (.int .i64 2) ∧ Below w.heap.size w w' := by
 obtain ⟨x0, x1, x2, x3, x4, x5, x6, x7⟩ := c
 simp only at *
 subst hk
 have cH := fun W (hB : Below w.heap.size w W) => refHas_calls R x2 W vs (h.below hB)
 rw [hh] at cH
 have HX2 := Aside0.mk hh
 clear hh
 have HH := Aside0.mk cH
 clear cH
 obtain ⟨A0, c0, A1, c1, A2, c2, A3, c3, A4, c4, A5, c5, rfl, h0, h1, h2, h3, h4, h5⟩ := h
 have H0 := Aside0.mk h0
 have H1 := Aside0.mk h1
 have H2 := Aside0.mk h2
 obtain ⟨W0, hW0⟩ : ∃ W0 : World, W0 = w.alloc (.cells #[.slice A0 R.N.length c0, .slice A1 R.L.length c1, .slice A2 R.Cov.length c2, .slice A3 R.Dead.length c3, .slice A4 R.Above.length c4, .slice A5 R.Firsts.length c5] TR) := ⟨_, rfl⟩
 have hB0 : Below w.heap.size w W0 := by rw [hW0]; exact (Below.refl _ w).alloc (Nat.le_refl _) _
 have d0 := heap_alloc_new w (.cells #[.slice A0 R.N.length c0, .slice A1 R.L.length c1, .slice A2 R.Cov.length c2, .slice A3 R.Dead.length c3, .slice A4 R.Above.length c4, .slice A5 R.Firsts.length c5] TR)
 rw [← hW0] at d0
 have hs0 : W0.heap.size = w.heap.size + 1 := by rw [hW0]; simp
 obtain ⟨W, hW⟩ : ∃ W : World, W = W0.alloc (.cells #[.int .i64 5, .int .i64 x1, .int .i64 x2, .string x3, .string x4, .int .i64 x5, .int .i64 x6, .int .i64 x7] TC) := ⟨_, rfl⟩
 have hB1 : Below W0.heap.size W0 W := by rw [hW]; exact (Below.refl _ W0).alloc (Nat.le_refl _) _
 have b0 := heap_alloc_new W0 (.cells #[.int .i64 5, .int .i64 x1, .int .i64 x2, .string x3, .string x4, .int .i64 x5, .int .i64 x6, .int .i64 x7] TC)
 rw [← hW, hs0] at b0
 have d1 := (hB1.block w.heap.size (by omega)).trans d0
 have HB := Aside0.mk (below_step hB0 hB1)
 obtain ⟨q0, q1, q2, q3, q4, q5, q6, q7⟩ := box_cells b0
 obtain ⟨r0, r1, r2, r3, r4, r5⟩ := boxR_cells d1
 have HD := Aside0.mk d1
 have HC := Aside0.mk b0
 have HS0 := Aside0.mk hs0
 unfold encC
 clear hB0 d0 hB1 b0 d1 h0 h1 h2 h3 h4 h5 hs0
 go_enter Try.func31, Try.ntmps31
 go_wp2_with fail
 rw [← hW0, ← hW]
 clear hW hW0
 refine (HH.out W HB.out).mono ?_
 rintro e w1 ⟨rfl, hb1⟩
 have hlt := blk_lt HC.out
 have e1 := (hb1.block _ (by omega)).trans HD.out
 have e2 := (hb1.block _ hlt).trans HC.out
 have HB' := Aside0.mk (below_step HB.out hb1)
 clear q0 q1 q2 q3 q4 q5 q6 q7 r0 r1 r2 r3 r4 r5 hb1 hlt HB HD HC
 have HB := HB'
 have HD := Aside0.mk e1
 have HC := Aside0.mk e2
 obtain ⟨q0, q1, q2, q3, q4, q5, q6, q7⟩ := box_cells e2
 obtain ⟨r0, r1, r2, r3, r4, r5⟩ := boxR_cells e1
 clear e1 e2 HB'
 go_wp2
 go_ret
 exact ⟨rfl, HB.out⟩
set_option maxHeartbeats 8000000 in
set_option maxRecDepth 100000 in
theorem wrong_none6 (R : Ref) (c : Chg) (w : World) (vs : Array Value) (h : RefAt R w vs) (hk : c.f0 = 6) (hh : R.has c.f2 = false) :
  Calls Try.prog 31 #[.agg vs, .agg (encC c).toArray] w fun e w' => e = .returned (.int .i64 2) ∧ Below w.heap.size w w' := by
 obtain ⟨x0, x1, x2, x3, x4, x5, x6, x7⟩ := c
 simp only at *
 subst hk
 have cH := fun W (hB : Below w.heap.size w W) => refHas_calls R x2 W vs (h.below hB)
 rw [hh] at cH
 have HX2 := Aside0.mk hh
 clear hh
 have HH := Aside0.mk cH
 clear cH
 obtain ⟨A0, c0, A1, c1, A2, c2, A3, c3, A4, c4, A5, c5, rfl, h0, h1, h2, h3, h4, h5⟩ := h
 have H0 := Aside0.mk h0
 have H1 := Aside0.mk h1
 have H2 := Aside0.mk h2
 obtain ⟨W0, hW0⟩ : ∃ W0 : World, W0 = w.alloc (.cells #[.slice A0 R.N.length c0, .slice A1 R.L.length c1, .slice A2 R.Cov.length c2, .slice A3 R.Dead.length c3, .slice A4 R.Above.length c4, .slice A5 R.Firsts.length c5] TR) := ⟨_, rfl⟩
 have hB0 : Below w.heap.size w W0 := by rw [hW0]; exact (Below.refl _ w).alloc (Nat.le_refl _) _
 have d0 := heap_alloc_new w (.cells #[.slice A0 R.N.length c0, .slice A1 R.L.length c1, .slice A2 R.Cov.length c2, .slice A3 R.Dead.length c3, .slice A4 R.Above.length c4, .slice A5 R.Firsts.length c5] TR)
 rw [← hW0] at d0
 have hs0 : W0.heap.size = w.heap.size + 1 := by rw [hW0]; simp
 obtain ⟨W, hW⟩ : ∃ W : World, W = W0.alloc (.cells #[.int .i64 6, .int .i64 x1, .int .i64 x2, .string x3, .string x4, .int .i64 x5, .int .i64 x6, .int .i64 x7] TC) := ⟨_, rfl⟩
 have hB1 : Below W0.heap.size W0 W := by rw [hW]; exact (Below.refl _ W0).alloc (Nat.le_refl _) _
 have b0 := heap_alloc_new W0 (.cells #[.int .i64 6, .int .i64 x1, .int .i64 x2, .string x3, .string x4, .int .i64 x5, .int .i64 x6, .int .i64 x7] TC)
 rw [← hW, hs0] at b0
 have d1 := (hB1.block w.heap.size (by omega)).trans d0
 have HB := Aside0.mk (below_step hB0 hB1)
 obtain ⟨q0, q1, q2, q3, q4, q5, q6, q7⟩ := box_cells b0
 obtain ⟨r0, r1, r2, r3, r4, r5⟩ := boxR_cells d1
 have HD := Aside0.mk d1
 have HC := Aside0.mk b0
 have HS0 := Aside0.mk hs0
 unfold encC
 clear hB0 d0 hB1 b0 d1 h0 h1 h2 h3 h4 h5 hs0
 go_enter Try.func31, Try.ntmps31
 go_wp2_with fail
 rw [← hW0, ← hW]
 clear hW hW0
 refine (HH.out W HB.out).mono ?_
 rintro e w1 ⟨rfl, hb1⟩
 have hlt := blk_lt HC.out
 have e1 := (hb1.block _ (by omega)).trans HD.out
 have e2 := (hb1.block _ hlt).trans HC.out
 have HB' := Aside0.mk (below_step HB.out hb1)
 clear q0 q1 q2 q3 q4 q5 q6 q7 r0 r1 r2 r3 r4 r5 hb1 hlt HB HD HC
 have HB := HB'
 have HD := Aside0.mk e1
 have HC := Aside0.mk e2
 obtain ⟨q0, q1, q2, q3, q4, q5, q6, q7⟩ := box_cells e2
 obtain ⟨r0, r1, r2, r3, r4, r5⟩ := boxR_cells e1
 clear e1 e2 HB'
 go_wp2
 go_ret
 exact ⟨rfl, HB.out⟩
set_option maxHeartbeats 8000000 in
set_option maxRecDepth 100000 in
theorem wrong_none7 (R : Ref) (c : Chg) (w : World) (vs : Array Value) (h : RefAt R w vs) (hk : c.f0 = 7) (hh : R.has c.f2 = false) :
  Calls Try.prog 31 #[.agg vs, .agg (encC c).toArray] w fun e w' => e = .returned (.int .i64 2) ∧ Below w.heap.size w w' := by
 obtain ⟨x0, x1, x2, x3, x4, x5, x6, x7⟩ := c
 simp only at *
 subst hk
 have cH := fun W (hB : Below w.heap.size w W) => refHas_calls R x2 W vs (h.below hB)
 rw [hh] at cH
 have HX2 := Aside0.mk hh
 clear hh
 have HH := Aside0.mk cH
 clear cH
 obtain ⟨A0, c0, A1, c1, A2, c2, A3, c3, A4, c4, A5, c5, rfl, h0, h1, h2, h3, h4, h5⟩ := h
 have H0 := Aside0.mk h0
 have H1 := Aside0.mk h1
 have H2 := Aside0.mk h2
 obtain ⟨W0, hW0⟩ : ∃ W0 : World, W0 = w.alloc (.cells #[.slice A0 R.N.length c0, .slice A1 R.L.length c1, .slice A2 R.Cov.length c2, .slice A3 R.Dead.length c3, .slice A4 R.Above.length c4, .slice A5 R.Firsts.length c5] TR) := ⟨_, rfl⟩
 have hB0 : Below w.heap.size w W0 := by rw [hW0]; exact (Below.refl _ w).alloc (Nat.le_refl _) _
 have d0 := heap_alloc_new w (.cells #[.slice A0 R.N.length c0, .slice A1 R.L.length c1, .slice A2 R.Cov.length c2, .slice A3 R.Dead.length c3, .slice A4 R.Above.length c4, .slice A5 R.Firsts.length c5] TR)
 rw [← hW0] at d0
 have hs0 : W0.heap.size = w.heap.size + 1 := by rw [hW0]; simp
 obtain ⟨W, hW⟩ : ∃ W : World, W = W0.alloc (.cells #[.int .i64 7, .int .i64 x1, .int .i64 x2, .string x3, .string x4, .int .i64 x5, .int .i64 x6, .int .i64 x7] TC) := ⟨_, rfl⟩
 have hB1 : Below W0.heap.size W0 W := by rw [hW]; exact (Below.refl _ W0).alloc (Nat.le_refl _) _
 have b0 := heap_alloc_new W0 (.cells #[.int .i64 7, .int .i64 x1, .int .i64 x2, .string x3, .string x4, .int .i64 x5, .int .i64 x6, .int .i64 x7] TC)
 rw [← hW, hs0] at b0
 have d1 := (hB1.block w.heap.size (by omega)).trans d0
 have HB := Aside0.mk (below_step hB0 hB1)
 obtain ⟨q0, q1, q2, q3, q4, q5, q6, q7⟩ := box_cells b0
 obtain ⟨r0, r1, r2, r3, r4, r5⟩ := boxR_cells d1
 have HD := Aside0.mk d1
 have HC := Aside0.mk b0
 have HS0 := Aside0.mk hs0
 unfold encC
 clear hB0 d0 hB1 b0 d1 h0 h1 h2 h3 h4 h5 hs0
 go_enter Try.func31, Try.ntmps31
 go_wp2_with fail
 rw [← hW0, ← hW]
 clear hW hW0
 refine (HH.out W HB.out).mono ?_
 rintro e w1 ⟨rfl, hb1⟩
 have hlt := blk_lt HC.out
 have e1 := (hb1.block _ (by omega)).trans HD.out
 have e2 := (hb1.block _ hlt).trans HC.out
 have HB' := Aside0.mk (below_step HB.out hb1)
 clear q0 q1 q2 q3 q4 q5 q6 q7 r0 r1 r2 r3 r4 r5 hb1 hlt HB HD HC
 have HB := HB'
 have HD := Aside0.mk e1
 have HC := Aside0.mk e2
 obtain ⟨q0, q1, q2, q3, q4, q5, q6, q7⟩ := box_cells e2
 obtain ⟨r0, r1, r2, r3, r4, r5⟩ := boxR_cells e1
 clear e1 e2 HB'
 go_wp2
 go_ret
 exact ⟨rfl, HB.out⟩
set_option maxHeartbeats 8000000 in
set_option maxRecDepth 100000 in
theorem wrong_none8 (R : Ref) (c : Chg) (w : World) (vs : Array Value) (h : RefAt R w vs) (hk : c.f0 = 8) (hh : R.has c.f2 = false) :
  Calls Try.prog 31 #[.agg vs, .agg (encC c).toArray] w fun e w' => e = .returned (.int .i64 2) ∧ Below w.heap.size w w' := by
 obtain ⟨x0, x1, x2, x3, x4, x5, x6, x7⟩ := c
 simp only at *
 subst hk
 have cH := fun W (hB : Below w.heap.size w W) => refHas_calls R x2 W vs (h.below hB)
 rw [hh] at cH
 have HX2 := Aside0.mk hh
 clear hh
 have HH := Aside0.mk cH
 clear cH
 obtain ⟨A0, c0, A1, c1, A2, c2, A3, c3, A4, c4, A5, c5, rfl, h0, h1, h2, h3, h4, h5⟩ := h
 have H0 := Aside0.mk h0
 have H1 := Aside0.mk h1
 have H2 := Aside0.mk h2
 obtain ⟨W0, hW0⟩ : ∃ W0 : World, W0 = w.alloc (.cells #[.slice A0 R.N.length c0, .slice A1 R.L.length c1, .slice A2 R.Cov.length c2, .slice A3 R.Dead.length c3, .slice A4 R.Above.length c4, .slice A5 R.Firsts.length c5] TR) := ⟨_, rfl⟩
 have hB0 : Below w.heap.size w W0 := by rw [hW0]; exact (Below.refl _ w).alloc (Nat.le_refl _) _
 have d0 := heap_alloc_new w (.cells #[.slice A0 R.N.length c0, .slice A1 R.L.length c1, .slice A2 R.Cov.length c2, .slice A3 R.Dead.length c3, .slice A4 R.Above.length c4, .slice A5 R.Firsts.length c5] TR)
 rw [← hW0] at d0
 have hs0 : W0.heap.size = w.heap.size + 1 := by rw [hW0]; simp
 obtain ⟨W, hW⟩ : ∃ W : World, W = W0.alloc (.cells #[.int .i64 8, .int .i64 x1, .int .i64 x2, .string x3, .string x4, .int .i64 x5, .int .i64 x6, .int .i64 x7] TC) := ⟨_, rfl⟩
 have hB1 : Below W0.heap.size W0 W := by rw [hW]; exact (Below.refl _ W0).alloc (Nat.le_refl _) _
 have b0 := heap_alloc_new W0 (.cells #[.int .i64 8, .int .i64 x1, .int .i64 x2, .string x3, .string x4, .int .i64 x5, .int .i64 x6, .int .i64 x7] TC)
 rw [← hW, hs0] at b0
 have d1 := (hB1.block w.heap.size (by omega)).trans d0
 have HB := Aside0.mk (below_step hB0 hB1)
 obtain ⟨q0, q1, q2, q3, q4, q5, q6, q7⟩ := box_cells b0
 obtain ⟨r0, r1, r2, r3, r4, r5⟩ := boxR_cells d1
 have HD := Aside0.mk d1
 have HC := Aside0.mk b0
 have HS0 := Aside0.mk hs0
 unfold encC
 clear hB0 d0 hB1 b0 d1 h0 h1 h2 h3 h4 h5 hs0
 go_enter Try.func31, Try.ntmps31
 go_wp2_with fail
 rw [← hW0, ← hW]
 clear hW hW0
 refine (HH.out W HB.out).mono ?_
 rintro e w1 ⟨rfl, hb1⟩
 have hlt := blk_lt HC.out
 have e1 := (hb1.block _ (by omega)).trans HD.out
 have e2 := (hb1.block _ hlt).trans HC.out
 have HB' := Aside0.mk (below_step HB.out hb1)
 clear q0 q1 q2 q3 q4 q5 q6 q7 r0 r1 r2 r3 r4 r5 hb1 hlt HB HD HC
 have HB := HB'
 have HD := Aside0.mk e1
 have HC := Aside0.mk e2
 obtain ⟨q0, q1, q2, q3, q4, q5, q6, q7⟩ := box_cells e2
 obtain ⟨r0, r1, r2, r3, r4, r5⟩ := boxR_cells e1
 clear e1 e2 HB'
 go_wp2
 go_ret
 exact ⟨rfl, HB.out⟩
set_option maxHeartbeats 8000000 in
set_option maxRecDepth 100000 in
theorem wrong_ok4 (R : Ref) (c : Chg) (w : World) (vs : Array Value) (h : RefAt R w vs) (hk : c.f0 = 4) (hh : R.has c.f2 = true) :
  Calls Try.prog 31 #[.agg vs, .agg (encC c).toArray] w fun e w' => e = .returned (.int .i64 0) ∧ Below w.heap.size w w' := by
 obtain ⟨x0, x1, x2, x3, x4, x5, x6, x7⟩ := c
 simp only at *
 subst hk
 have cH := fun W (hB : Below w.heap.size w W) => refHas_calls R x2 W vs (h.below hB)
 rw [hh] at cH
 have HX2 := Aside0.mk hh
 clear hh
 have HH := Aside0.mk cH
 clear cH
 obtain ⟨A0, c0, A1, c1, A2, c2, A3, c3, A4, c4, A5, c5, rfl, h0, h1, h2, h3, h4, h5⟩ := h
 have H0 := Aside0.mk h0
 have H1 := Aside0.mk h1
 have H2 := Aside0.mk h2
 obtain ⟨W0, hW0⟩ : ∃ W0 : World, W0 = w.alloc (.cells #[.slice A0 R.N.length c0, .slice A1 R.L.length c1, .slice A2 R.Cov.length c2, .slice A3 R.Dead.length c3, .slice A4 R.Above.length c4, .slice A5 R.Firsts.length c5] TR) := ⟨_, rfl⟩
 have hB0 : Below w.heap.size w W0 := by rw [hW0]; exact (Below.refl _ w).alloc (Nat.le_refl _) _
 have d0 := heap_alloc_new w (.cells #[.slice A0 R.N.length c0, .slice A1 R.L.length c1, .slice A2 R.Cov.length c2, .slice A3 R.Dead.length c3, .slice A4 R.Above.length c4, .slice A5 R.Firsts.length c5] TR)
 rw [← hW0] at d0
 have hs0 : W0.heap.size = w.heap.size + 1 := by rw [hW0]; simp
 obtain ⟨W, hW⟩ : ∃ W : World, W = W0.alloc (.cells #[.int .i64 4, .int .i64 x1, .int .i64 x2, .string x3, .string x4, .int .i64 x5, .int .i64 x6, .int .i64 x7] TC) := ⟨_, rfl⟩
 have hB1 : Below W0.heap.size W0 W := by rw [hW]; exact (Below.refl _ W0).alloc (Nat.le_refl _) _
 have b0 := heap_alloc_new W0 (.cells #[.int .i64 4, .int .i64 x1, .int .i64 x2, .string x3, .string x4, .int .i64 x5, .int .i64 x6, .int .i64 x7] TC)
 rw [← hW, hs0] at b0
 have d1 := (hB1.block w.heap.size (by omega)).trans d0
 have HB := Aside0.mk (below_step hB0 hB1)
 obtain ⟨q0, q1, q2, q3, q4, q5, q6, q7⟩ := box_cells b0
 obtain ⟨r0, r1, r2, r3, r4, r5⟩ := boxR_cells d1
 have HD := Aside0.mk d1
 have HC := Aside0.mk b0
 have HS0 := Aside0.mk hs0
 unfold encC
 clear hB0 d0 hB1 b0 d1 h0 h1 h2 h3 h4 h5 hs0
 go_enter Try.func31, Try.ntmps31
 go_wp2_with fail
 rw [← hW0, ← hW]
 clear hW hW0
 refine (HH.out W HB.out).mono ?_
 rintro e w1 ⟨rfl, hb1⟩
 have hlt := blk_lt HC.out
 have e1 := (hb1.block _ (by omega)).trans HD.out
 have e2 := (hb1.block _ hlt).trans HC.out
 have HB' := Aside0.mk (below_step HB.out hb1)
 clear q0 q1 q2 q3 q4 q5 q6 q7 r0 r1 r2 r3 r4 r5 hb1 hlt HB HD HC
 have HB := HB'
 have HD := Aside0.mk e1
 have HC := Aside0.mk e2
 obtain ⟨q0, q1, q2, q3, q4, q5, q6, q7⟩ := box_cells e2
 obtain ⟨r0, r1, r2, r3, r4, r5⟩ := boxR_cells e1
 clear e1 e2 HB'
 go_wp2
 simp only [List.append]
 go_big_quiet (fail)
 go_wp2
 go_ret
 exact ⟨rfl, below_step HB.out (by repeat (first | exact Below.refl _ _ | apply pw_below_drewN | apply below_drew1))⟩
end Go.Proofs.Ytlfldoghomnbkaa.QVfs
end

section
namespace Go.Proofs.Ytlfldoghomnbkaa.QVfs
open Go.RowKit Go.Proofs.YtlfldoghomnbkaaW.PrintWords Go.Proofs.YtlfldoghomnbkaaW.PrintLast Go.Proofs.YtlfldoghomnbkaaW.PrintMore
set_option linter.unusedVariables false
set_option linter.unusedSimpArgs false
set_option maxHeartbeats 8000000 in
set_option maxRecDepth 100000 in
theorem wrong_ok5 (R : Ref) (c : Chg) (w : World) (vs : Array Value) (h : RefAt R w vs) (hk : c.f0 = 5) (hh : R.has c.f2 = true) :
  Calls Try.prog 31 #[.agg vs, .agg (encC c).toArray] w fun e w' => e = .returned (.int .i64 0) ∧ Below w.heap.size w w' := by
 obtain ⟨x0, x1, x2, x3, x4, x5, x6, x7⟩ := c
 simp only at *
 subst hk
 have cH := fun W (hB : Below w.heap.size w W) => refHas_calls R x2 W vs (h.below hB)
 rw [hh] at cH
 have HX2 := Aside0.mk hh
 clear hh
 have HH := Aside0.mk cH
 clear cH
 obtain ⟨A0, c0, A1, c1, A2, c2, A3, c3, A4, c4, A5, c5, rfl, h0, h1, h2, h3, h4, h5⟩ := h
 have H0 := Aside0.mk h0
 have H1 := Aside0.mk h1
 have H2 := Aside0.mk h2
 obtain ⟨W0, hW0⟩ : ∃ W0 : World, W0 = w.alloc (.cells #[.slice A0 R.N.length c0, .slice A1 R.L.length c1, .slice A2 R.Cov.length c2, .slice A3 R.Dead.length c3, .slice A4 R.Above.length c4, .slice A5 R.Firsts.length c5] TR) := ⟨_, rfl⟩
 have hB0 : Below w.heap.size w W0 := by rw [hW0]; exact (Below.refl _ w).alloc (Nat.le_refl _) _
 have d0 := heap_alloc_new w (.cells #[.slice A0 R.N.length c0, .slice A1 R.L.length c1, .slice A2 R.Cov.length c2, .slice A3 R.Dead.length c3, .slice A4 R.Above.length c4, .slice A5 R.Firsts.length c5] TR)
 rw [← hW0] at d0
 have hs0 : W0.heap.size = w.heap.size + 1 := by rw [hW0]; simp
 obtain ⟨W, hW⟩ : ∃ W : World, W = W0.alloc (.cells #[.int .i64 5, .int .i64 x1, .int .i64 x2, .string x3, .string x4, .int .i64 x5, .int .i64 x6, .int .i64 x7] TC) := ⟨_, rfl⟩
 have hB1 : Below W0.heap.size W0 W := by rw [hW]; exact (Below.refl _ W0).alloc (Nat.le_refl _) _
 have b0 := heap_alloc_new W0 (.cells #[.int .i64 5, .int .i64 x1, .int .i64 x2, .string x3, .string x4, .int .i64 x5, .int .i64 x6, .int .i64 x7] TC)
 rw [← hW, hs0] at b0
 have d1 := (hB1.block w.heap.size (by omega)).trans d0
 have HB := Aside0.mk (below_step hB0 hB1)
 obtain ⟨q0, q1, q2, q3, q4, q5, q6, q7⟩ := box_cells b0
 obtain ⟨r0, r1, r2, r3, r4, r5⟩ := boxR_cells d1
 have HD := Aside0.mk d1
 have HC := Aside0.mk b0
 have HS0 := Aside0.mk hs0
 unfold encC
 clear hB0 d0 hB1 b0 d1 h0 h1 h2 h3 h4 h5 hs0
 go_enter Try.func31, Try.ntmps31
 go_wp2_with fail
 rw [← hW0, ← hW]
 clear hW hW0
 refine (HH.out W HB.out).mono ?_
 rintro e w1 ⟨rfl, hb1⟩
 have hlt := blk_lt HC.out
 have e1 := (hb1.block _ (by omega)).trans HD.out
 have e2 := (hb1.block _ hlt).trans HC.out
 have HB' := Aside0.mk (below_step HB.out hb1)
 clear q0 q1 q2 q3 q4 q5 q6 q7 r0 r1 r2 r3 r4 r5 hb1 hlt HB HD HC
 have HB := HB'
 have HD := Aside0.mk e1
 have HC := Aside0.mk e2
 obtain ⟨q0, q1, q2, q3, q4, q5, q6, q7⟩ := box_cells e2
 obtain ⟨r0, r1, r2, r3, r4, r5⟩ := boxR_cells e1
 clear e1 e2 HB'
 go_wp2
 simp only [List.append]
 go_big_quiet (fail)
 go_wp2
 go_ret
 exact ⟨rfl, below_step HB.out (by repeat (first | exact Below.refl _ _ | apply pw_below_drewN | apply below_drew1))⟩
set_option maxHeartbeats 8000000 in
set_option maxRecDepth 100000 in
theorem wrong_ok8 (R : Ref) (c : Chg) (w : World) (vs : Array Value) (h : RefAt R w vs) (hk : c.f0 = 8) (hh : R.has c.f2 = true) :
  Calls Try.prog 31 #[.agg vs, .agg (encC c).toArray] w fun e w' => e = .returned (.int .i64 0) ∧ Below w.heap.size w w' := by
 obtain ⟨x0, x1, x2, x3, x4, x5, x6, x7⟩ := c
 simp only at *
 subst hk
 have cH := fun W (hB : Below w.heap.size w W) => refHas_calls R x2 W vs (h.below hB)
 rw [hh] at cH
 have HX2 := Aside0.mk hh
 clear hh
 have HH := Aside0.mk cH
 clear cH
 obtain ⟨A0, c0, A1, c1, A2, c2, A3, c3, A4, c4, A5, c5, rfl, h0, h1, h2, h3, h4, h5⟩ := h
 have H0 := Aside0.mk h0
 have H1 := Aside0.mk h1
 have H2 := Aside0.mk h2
 obtain ⟨W0, hW0⟩ : ∃ W0 : World, W0 = w.alloc (.cells #[.slice A0 R.N.length c0, .slice A1 R.L.length c1, .slice A2 R.Cov.length c2, .slice A3 R.Dead.length c3, .slice A4 R.Above.length c4, .slice A5 R.Firsts.length c5] TR) := ⟨_, rfl⟩
 have hB0 : Below w.heap.size w W0 := by rw [hW0]; exact (Below.refl _ w).alloc (Nat.le_refl _) _
 have d0 := heap_alloc_new w (.cells #[.slice A0 R.N.length c0, .slice A1 R.L.length c1, .slice A2 R.Cov.length c2, .slice A3 R.Dead.length c3, .slice A4 R.Above.length c4, .slice A5 R.Firsts.length c5] TR)
 rw [← hW0] at d0
 have hs0 : W0.heap.size = w.heap.size + 1 := by rw [hW0]; simp
 obtain ⟨W, hW⟩ : ∃ W : World, W = W0.alloc (.cells #[.int .i64 8, .int .i64 x1, .int .i64 x2, .string x3, .string x4, .int .i64 x5, .int .i64 x6, .int .i64 x7] TC) := ⟨_, rfl⟩
 have hB1 : Below W0.heap.size W0 W := by rw [hW]; exact (Below.refl _ W0).alloc (Nat.le_refl _) _
 have b0 := heap_alloc_new W0 (.cells #[.int .i64 8, .int .i64 x1, .int .i64 x2, .string x3, .string x4, .int .i64 x5, .int .i64 x6, .int .i64 x7] TC)
 rw [← hW, hs0] at b0
 have d1 := (hB1.block w.heap.size (by omega)).trans d0
 have HB := Aside0.mk (below_step hB0 hB1)
 obtain ⟨q0, q1, q2, q3, q4, q5, q6, q7⟩ := box_cells b0
 obtain ⟨r0, r1, r2, r3, r4, r5⟩ := boxR_cells d1
 have HD := Aside0.mk d1
 have HC := Aside0.mk b0
 have HS0 := Aside0.mk hs0
 unfold encC
 clear hB0 d0 hB1 b0 d1 h0 h1 h2 h3 h4 h5 hs0
 go_enter Try.func31, Try.ntmps31
 go_wp2_with fail
 rw [← hW0, ← hW]
 clear hW hW0
 refine (HH.out W HB.out).mono ?_
 rintro e w1 ⟨rfl, hb1⟩
 have hlt := blk_lt HC.out
 have e1 := (hb1.block _ (by omega)).trans HD.out
 have e2 := (hb1.block _ hlt).trans HC.out
 have HB' := Aside0.mk (below_step HB.out hb1)
 clear q0 q1 q2 q3 q4 q5 q6 q7 r0 r1 r2 r3 r4 r5 hb1 hlt HB HD HC
 have HB := HB'
 have HD := Aside0.mk e1
 have HC := Aside0.mk e2
 obtain ⟨q0, q1, q2, q3, q4, q5, q6, q7⟩ := box_cells e2
 obtain ⟨r0, r1, r2, r3, r4, r5⟩ := boxR_cells e1
 clear e1 e2 HB'
 go_wp2
 simp only [List.append]
 go_big_quiet (fail)
 go_wp2
 go_ret
 exact ⟨rfl, below_step HB.out (by repeat (first | exact Below.refl _ _ | apply pw_below_drewN | apply below_drew1))⟩
set_option maxHeartbeats 8000000 in
set_option maxRecDepth 100000 in
theorem wrong_t6a (R : Ref) (c : Chg) (w : World) (vs : Array Value) (h : RefAt R w vs) (hk : c.f0 = 6) (hh : R.has c.f2 = true) (h5 : c.f5 < 0) :
  Calls Try.prog 31 #[.agg vs, .agg (encC c).toArray] w fun e w' => e = .returned (.int .i64 1) ∧ Below w.heap.size w w' := by
 obtain ⟨x0, x1, x2, x3, x4, x5, x6, x7⟩ := c
 simp only at *
 subst hk
 have cH := fun W (hB : Below w.heap.size w W) => refHas_calls R x2 W vs (h.below hB)
 rw [hh] at cH
 have HX2 := Aside0.mk hh
 clear hh
 have HH := Aside0.mk cH
 clear cH
 have d5 : decide (x5 < 0) = true := decide_eq_true h5
 clear h5
 obtain ⟨A0, c0, A1, c1, A2, c2, A3, c3, A4, c4, A5, c5, rfl, h0, h1, h2, h3, h4, h5⟩ := h
 have H0 := Aside0.mk h0
 have H1 := Aside0.mk h1
 have H2 := Aside0.mk h2
 obtain ⟨W0, hW0⟩ : ∃ W0 : World, W0 = w.alloc (.cells #[.slice A0 R.N.length c0, .slice A1 R.L.length c1, .slice A2 R.Cov.length c2, .slice A3 R.Dead.length c3, .slice A4 R.Above.length c4, .slice A5 R.Firsts.length c5] TR) := ⟨_, rfl⟩
 have hB0 : Below w.heap.size w W0 := by rw [hW0]; exact (Below.refl _ w).alloc (Nat.le_refl _) _
 have d0 := heap_alloc_new w (.cells #[.slice A0 R.N.length c0, .slice A1 R.L.length c1, .slice A2 R.Cov.length c2, .slice A3 R.Dead.length c3, .slice A4 R.Above.length c4, .slice A5 R.Firsts.length c5] TR)
 rw [← hW0] at d0
 have hs0 : W0.heap.size = w.heap.size + 1 := by rw [hW0]; simp
 obtain ⟨W, hW⟩ : ∃ W : World, W = W0.alloc (.cells #[.int .i64 6, .int .i64 x1, .int .i64 x2, .string x3, .string x4, .int .i64 x5, .int .i64 x6, .int .i64 x7] TC) := ⟨_, rfl⟩
 have hB1 : Below W0.heap.size W0 W := by rw [hW]; exact (Below.refl _ W0).alloc (Nat.le_refl _) _
 have b0 := heap_alloc_new W0 (.cells #[.int .i64 6, .int .i64 x1, .int .i64 x2, .string x3, .string x4, .int .i64 x5, .int .i64 x6, .int .i64 x7] TC)
 rw [← hW, hs0] at b0
 have d1 := (hB1.block w.heap.size (by omega)).trans d0
 have HB := Aside0.mk (below_step hB0 hB1)
 obtain ⟨q0, q1, q2, q3, q4, q5, q6, q7⟩ := box_cells b0
 obtain ⟨r0, r1, r2, r3, r4, r5⟩ := boxR_cells d1
 have HD := Aside0.mk d1
 have HC := Aside0.mk b0
 have HS0 := Aside0.mk hs0
 unfold encC
 clear hB0 d0 hB1 b0 d1 h0 h1 h2 h3 h4 h5 hs0
 go_enter Try.func31, Try.ntmps31
 go_wp2_with fail
 rw [← hW0, ← hW]
 clear hW hW0
 refine (HH.out W HB.out).mono ?_
 rintro e w1 ⟨rfl, hb1⟩
 have hlt := blk_lt HC.out
 have e1 := (hb1.block _ (by omega)).trans HD.out
 have e2 := (hb1.block _ hlt).trans HC.out
 have HB' := Aside0.mk (below_step HB.out hb1)
 clear q0 q1 q2 q3 q4 q5 q6 q7 r0 r1 r2 r3 r4 r5 hb1 hlt HB HD HC
 have HB := HB'
 have HD := Aside0.mk e1
 have HC := Aside0.mk e2
 obtain ⟨q0, q1, q2, q3, q4, q5, q6, q7⟩ := box_cells e2
 obtain ⟨r0, r1, r2, r3, r4, r5⟩ := boxR_cells e1
 clear e1 e2 HB'
 go_wp2
 simp only [List.append]
 go_big_quiet (fail)
 go_wp2
 go_ret
 exact ⟨rfl, below_step HB.out (by repeat (first | exact Below.refl _ _ | apply pw_below_drewN | apply below_drew1))⟩
set_option maxHeartbeats 8000000 in
set_option maxRecDepth 100000 in
theorem wrong_t6b (R : Ref) (c : Chg) (w : World) (vs : Array Value) (h : RefAt R w vs) (hk : c.f0 = 6) (hh : R.has c.f2 = true) (h5 : 2 < c.f5) :
  Calls Try.prog 31 #[.agg vs, .agg (encC c).toArray] w fun e w' => e = .returned (.int .i64 1) ∧ Below w.heap.size w w' := by
 obtain ⟨x0, x1, x2, x3, x4, x5, x6, x7⟩ := c
 simp only at *
 subst hk
 have cH := fun W (hB : Below w.heap.size w W) => refHas_calls R x2 W vs (h.below hB)
 rw [hh] at cH
 have HX2 := Aside0.mk hh
 clear hh
 have HH := Aside0.mk cH
 clear cH
 have d5 : decide (x5 < 0) = false := decide_eq_false (by omega)
 have d6 : decide (2 < x5) = true := decide_eq_true h5
 clear h5
 obtain ⟨A0, c0, A1, c1, A2, c2, A3, c3, A4, c4, A5, c5, rfl, h0, h1, h2, h3, h4, h5⟩ := h
 have H0 := Aside0.mk h0
 have H1 := Aside0.mk h1
 have H2 := Aside0.mk h2
 obtain ⟨W0, hW0⟩ : ∃ W0 : World, W0 = w.alloc (.cells #[.slice A0 R.N.length c0, .slice A1 R.L.length c1, .slice A2 R.Cov.length c2, .slice A3 R.Dead.length c3, .slice A4 R.Above.length c4, .slice A5 R.Firsts.length c5] TR) := ⟨_, rfl⟩
 have hB0 : Below w.heap.size w W0 := by rw [hW0]; exact (Below.refl _ w).alloc (Nat.le_refl _) _
 have d0 := heap_alloc_new w (.cells #[.slice A0 R.N.length c0, .slice A1 R.L.length c1, .slice A2 R.Cov.length c2, .slice A3 R.Dead.length c3, .slice A4 R.Above.length c4, .slice A5 R.Firsts.length c5] TR)
 rw [← hW0] at d0
 have hs0 : W0.heap.size = w.heap.size + 1 := by rw [hW0]; simp
 obtain ⟨W, hW⟩ : ∃ W : World, W = W0.alloc (.cells #[.int .i64 6, .int .i64 x1, .int .i64 x2, .string x3, .string x4, .int .i64 x5, .int .i64 x6, .int .i64 x7] TC) := ⟨_, rfl⟩
 have hB1 : Below W0.heap.size W0 W := by rw [hW]; exact (Below.refl _ W0).alloc (Nat.le_refl _) _
 have b0 := heap_alloc_new W0 (.cells #[.int .i64 6, .int .i64 x1, .int .i64 x2, .string x3, .string x4, .int .i64 x5, .int .i64 x6, .int .i64 x7] TC)
 rw [← hW, hs0] at b0
 have d1 := (hB1.block w.heap.size (by omega)).trans d0
 have HB := Aside0.mk (below_step hB0 hB1)
 obtain ⟨q0, q1, q2, q3, q4, q5, q6, q7⟩ := box_cells b0
 obtain ⟨r0, r1, r2, r3, r4, r5⟩ := boxR_cells d1
 have HD := Aside0.mk d1
 have HC := Aside0.mk b0
 have HS0 := Aside0.mk hs0
 unfold encC
 clear hB0 d0 hB1 b0 d1 h0 h1 h2 h3 h4 h5 hs0
 go_enter Try.func31, Try.ntmps31
 go_wp2_with fail
 rw [← hW0, ← hW]
 clear hW hW0
 refine (HH.out W HB.out).mono ?_
 rintro e w1 ⟨rfl, hb1⟩
 have hlt := blk_lt HC.out
 have e1 := (hb1.block _ (by omega)).trans HD.out
 have e2 := (hb1.block _ hlt).trans HC.out
 have HB' := Aside0.mk (below_step HB.out hb1)
 clear q0 q1 q2 q3 q4 q5 q6 q7 r0 r1 r2 r3 r4 r5 hb1 hlt HB HD HC
 have HB := HB'
 have HD := Aside0.mk e1
 have HC := Aside0.mk e2
 obtain ⟨q0, q1, q2, q3, q4, q5, q6, q7⟩ := box_cells e2
 obtain ⟨r0, r1, r2, r3, r4, r5⟩ := boxR_cells e1
 clear e1 e2 HB'
 go_wp2
 simp only [List.append]
 go_big_quiet (fail)
 go_wp2
 go_ret
 exact ⟨rfl, below_step HB.out (by repeat (first | exact Below.refl _ _ | apply pw_below_drewN | apply below_drew1))⟩
set_option maxHeartbeats 8000000 in
set_option maxRecDepth 100000 in
theorem wrong_t6 (R : Ref) (c : Chg) (w : World) (vs : Array Value) (h : RefAt R w vs) (hk : c.f0 = 6) (hh : R.has c.f2 = true) (h5 : 0 ≤ c.f5 ∧ c.f5 ≤ 2) :
  Calls Try.prog 31 #[.agg vs, .agg (encC c).toArray] w fun e w' => e = .returned (.int .i64 0) ∧ Below w.heap.size w w' := by
 obtain ⟨x0, x1, x2, x3, x4, x5, x6, x7⟩ := c
 simp only at *
 subst hk
 have cH := fun W (hB : Below w.heap.size w W) => refHas_calls R x2 W vs (h.below hB)
 rw [hh] at cH
 have HX2 := Aside0.mk hh
 clear hh
 have HH := Aside0.mk cH
 clear cH
 have d5 : decide (x5 < 0) = false := decide_eq_false (by omega)
 have d6 : decide (2 < x5) = false := decide_eq_false (by omega)
 clear h5
 obtain ⟨A0, c0, A1, c1, A2, c2, A3, c3, A4, c4, A5, c5, rfl, h0, h1, h2, h3, h4, h5⟩ := h
 have H0 := Aside0.mk h0
 have H1 := Aside0.mk h1
 have H2 := Aside0.mk h2
 obtain ⟨W0, hW0⟩ : ∃ W0 : World, W0 = w.alloc (.cells #[.slice A0 R.N.length c0, .slice A1 R.L.length c1, .slice A2 R.Cov.length c2, .slice A3 R.Dead.length c3, .slice A4 R.Above.length c4, .slice A5 R.Firsts.length c5] TR) := ⟨_, rfl⟩
 have hB0 : Below w.heap.size w W0 := by rw [hW0]; exact (Below.refl _ w).alloc (Nat.le_refl _) _
 have d0 := heap_alloc_new w (.cells #[.slice A0 R.N.length c0, .slice A1 R.L.length c1, .slice A2 R.Cov.length c2, .slice A3 R.Dead.length c3, .slice A4 R.Above.length c4, .slice A5 R.Firsts.length c5] TR)
 rw [← hW0] at d0
 have hs0 : W0.heap.size = w.heap.size + 1 := by rw [hW0]; simp
 obtain ⟨W, hW⟩ : ∃ W : World, W = W0.alloc (.cells #[.int .i64 6, .int .i64 x1, .int .i64 x2, .string x3, .string x4, .int .i64 x5, .int .i64 x6, .int .i64 x7] TC) := ⟨_, rfl⟩
 have hB1 : Below W0.heap.size W0 W := by rw [hW]; exact (Below.refl _ W0).alloc (Nat.le_refl _) _
 have b0 := heap_alloc_new W0 (.cells #[.int .i64 6, .int .i64 x1, .int .i64 x2, .string x3, .string x4, .int .i64 x5, .int .i64 x6, .int .i64 x7] TC)
 rw [← hW, hs0] at b0
 have d1 := (hB1.block w.heap.size (by omega)).trans d0
 have HB := Aside0.mk (below_step hB0 hB1)
 obtain ⟨q0, q1, q2, q3, q4, q5, q6, q7⟩ := box_cells b0
 obtain ⟨r0, r1, r2, r3, r4, r5⟩ := boxR_cells d1
 have HD := Aside0.mk d1
 have HC := Aside0.mk b0
 have HS0 := Aside0.mk hs0
 unfold encC
 clear hB0 d0 hB1 b0 d1 h0 h1 h2 h3 h4 h5 hs0
 go_enter Try.func31, Try.ntmps31
 go_wp2_with fail
 rw [← hW0, ← hW]
 clear hW hW0
 refine (HH.out W HB.out).mono ?_
 rintro e w1 ⟨rfl, hb1⟩
 have hlt := blk_lt HC.out
 have e1 := (hb1.block _ (by omega)).trans HD.out
 have e2 := (hb1.block _ hlt).trans HC.out
 have HB' := Aside0.mk (below_step HB.out hb1)
 clear q0 q1 q2 q3 q4 q5 q6 q7 r0 r1 r2 r3 r4 r5 hb1 hlt HB HD HC
 have HB := HB'
 have HD := Aside0.mk e1
 have HC := Aside0.mk e2
 obtain ⟨q0, q1, q2, q3, q4, q5, q6, q7⟩ := box_cells e2
 obtain ⟨r0, r1, r2, r3, r4, r5⟩ := boxR_cells e1
 clear e1 e2 HB'
 go_wp2
 simp only [List.append]
 go_big_quiet (fail)
 go_wp2
 go_ret
 exact ⟨rfl, below_step HB.out (by repeat (first | exact Below.refl _ _ | apply pw_below_drewN | apply below_drew1))⟩
end Go.Proofs.Ytlfldoghomnbkaa.QVfs
end
