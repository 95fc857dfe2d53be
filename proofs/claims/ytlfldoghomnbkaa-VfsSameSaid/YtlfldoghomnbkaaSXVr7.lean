import Derived.Test.YtlfldoghomnbkaaSR0
import Derived.Test.YtlfldoghomnbkaaSXExt
-- Texts of this seat, what the claim does not reach struck out by a program.
namespace Go.Proofs.Ytlfldoghomnbkaa.QVfs
open Go.RowKit Go.Proofs.YtlfldoghomnbkaaW.PrintWords Go.Proofs.YtlfldoghomnbkaaW.PrintLast Go.Proofs.YtlfldoghomnbkaaW.PrintMore
set_option linter.unusedVariables false
set_option linter.unusedSimpArgs false
set_option maxHeartbeats 8000000 in
set_option maxRecDepth 100000 in
theorem wrong_2n (R : Ref) (c : Chg) (w : World) (vs : Array Value) (h : RefAt R w vs) (hk : c.f0 = 2) (h1 : R.has c.f1 = true) (hkd : (R.n c.f1).f2 = 2) (hs : c.f3.size ≤ 1000000) (hg : goodB c.f3 = true) (hLL : R.L.length ≤ 1000000) (hno : ∀ j, j < R.L.length → R.hit c.f1 c.f3 j = false) (hh : R.has c.f2 = false) :
  Calls Try.prog 31 #[.agg vs, .agg (encC c).toArray] w fun e w' => e = .returned (.int .i64 2) ∧ Below w.heap.size w w' := by
 obtain ⟨x0, x1, x2, x3, x4, x5, x6, x7⟩ := c
 simp only at *
 subst hk
 have cH := fun W (hB : Below w.heap.size w W) => refHas_calls R x1 W vs (h.below hB)
 rw [h1] at cH
 have HX1 := Aside0.mk h1
 clear h1
 have HH := Aside0.mk cH
 clear cH
 unfold Ref.n at *
 have dk2 : ((rd_T36 R.N x1).f2 != 2) = false := by rw [bne_eq_false_iff_eq]; exact hkd
 clear hkd
 have cG := fun W => refGood_calls x3 W hs
 rw [hg] at cG
 have HG := Aside0.mk cG
 clear cG hg hs
 have HNO := Aside0.mk hno
 clear hno
 have cH2 := fun W (hB : Below w.heap.size w W) => refHas_calls R x2 W vs (h.below hB)
 rw [hh] at cH2
 have HX2 := Aside0.mk hh
 clear hh
 have HH2 := Aside0.mk cH2
 clear cH2
 have hin1 : 0 ≤ x1 ∧ x1 < R.N.length := of_decide_eq_true HX1.out
 obtain ⟨A0, c0, A1, c1, A2, c2, A3, c3, A4, c4, A5, c5, rfl, h0, h1, h2, h3, h4, h5⟩ := h
 obtain ⟨ad0, he0, _⟩ := at_T36 h0.1 x1 hin1.1 hin1.2
 subst he0
 have b1 := hin1.1
 have b2 := hin1.2
 clear hin1
 have H0 := Aside0.mk h0
 have H1 := Aside0.mk h1
 have H2 := Aside0.mk h2
 obtain ⟨W0, hW0⟩ : ∃ W0 : World, W0 = w.alloc (.cells #[.slice (some ad0) R.N.length c0, .slice A1 R.L.length c1, .slice A2 R.Cov.length c2, .slice A3 R.Dead.length c3, .slice A4 R.Above.length c4, .slice A5 R.Firsts.length c5] TR) := ⟨_, rfl⟩
 have hB0 : Below w.heap.size w W0 := by rw [hW0]; exact (Below.refl _ w).alloc (Nat.le_refl _) _
 have d0 := heap_alloc_new w (.cells #[.slice (some ad0) R.N.length c0, .slice A1 R.L.length c1, .slice A2 R.Cov.length c2, .slice A3 R.Dead.length c3, .slice A4 R.Above.length c4, .slice A5 R.Firsts.length c5] TR)
 rw [← hW0] at d0
 have hs0 : W0.heap.size = w.heap.size + 1 := by rw [hW0]; simp
 obtain ⟨W, hW⟩ : ∃ W : World, W = W0.alloc (.cells #[.int .i64 2, .int .i64 x1, .int .i64 x2, .string x3, .string x4, .int .i64 x5, .int .i64 x6, .int .i64 x7] TC) := ⟨_, rfl⟩
 have hB1 : Below W0.heap.size W0 W := by rw [hW]; exact (Below.refl _ W0).alloc (Nat.le_refl _) _
 have b0 := heap_alloc_new W0 (.cells #[.int .i64 2, .int .i64 x1, .int .i64 x2, .string x3, .string x4, .int .i64 x5, .int .i64 x6, .int .i64 x7] TC)
 rw [← hW, hs0] at b0
 have d1 := (hB1.block w.heap.size (by omega)).trans d0
 have HB := Aside0.mk (below_step hB0 hB1)
 obtain ⟨q0, q1, q2, q3, q4, q5, q6, q7⟩ := box_cells b0
 obtain ⟨r0, r1, r2, r3, r4, r5⟩ := boxR_cells d1
 have HD := Aside0.mk d1
 have HC := Aside0.mk b0
 have HS0 := Aside0.mk hs0
 unfold encC
 clear hB0 d0 hB1 b0 d1 h0 h1 h2 h3 h4 h5 hs0
 go_enter Try.func31, Try.ntmps31
 go_wp2_with fail
 rw [← hW0, ← hW]
 clear hW hW0
 refine (HH.out W HB.out).mono ?_
 rintro e w1 ⟨rfl, hb1⟩
 have hlt := blk_lt HC.out
 have e1 := (hb1.block _ (by omega)).trans HD.out
 have e2 := (hb1.block _ hlt).trans HC.out
 have HB' := Aside0.mk (below_step HB.out hb1)
 clear q0 q1 q2 q3 q4 q5 q6 q7 r0 r1 r2 r3 r4 r5 hb1 hlt HB HD HC
 have HB := HB'
 have HD := Aside0.mk e1
 have HC := Aside0.mk e2
 obtain ⟨q0, q1, q2, q3, q4, q5, q6, q7⟩ := box_cells e2
 obtain ⟨r0, r1, r2, r3, r4, r5⟩ := boxR_cells e1
 clear e1 e2 HB'
 obtain ⟨n0, n2⟩ := nodeR (Kd.C_below H0.out.1 HB.out) x1 b1 b2
 go_wp2_with fail
 refine ((HG.out _).mono fun e w' hp => (⟨hp.1, Drawn0.below hp.2⟩ : _ ∧ Below _ _ w')).mono ?_
 rintro e w1 ⟨rfl, hb1⟩
 have hlt := blk_lt HC.out
 have e1 := (hb1.block _ (by omega)).trans HD.out
 have e2 := (hb1.block _ hlt).trans HC.out
 have HB' := Aside0.mk (below_step HB.out hb1)
 clear q0 q1 q2 q3 q4 q5 q6 q7 r0 r1 r2 r3 r4 r5 hb1 hlt HB HD HC
 have HB := HB'
 have HD := Aside0.mk e1
 have HC := Aside0.mk e2
 obtain ⟨q0, q1, q2, q3, q4, q5, q6, q7⟩ := box_cells e2
 obtain ⟨r0, r1, r2, r3, r4, r5⟩ := boxR_cells e1
 clear e1 e2 HB'
 go_wp2
 go_loopw [5] (fun v5 wr => ∃ k : Nat, v5 = .int .i64 k ∧ k ≤ R.L.length ∧ Aside0 (Below w.heap.size w wr) ∧ Aside0 (wr.heap[w.heap.size]? = some (.cells #[.slice (some ad0) R.N.length c0, .slice A1 R.L.length c1, .slice A2 R.Cov.length c2, .slice A3 R.Dead.length c3, .slice A4 R.Above.length c4, .slice A5 R.Firsts.length c5] TR (0, 0))) ∧ Aside0 (wr.heap[w.heap.size + 1]? = some (.cells #[.int .i64 2, .int .i64 x1, .int .i64 x2, .string x3, .string x4, .int .i64 x5, .int .i64 x6, .int .i64 x7] TC (0, 0))) ∧ Aside0 (∀ j, j < k → R.hit x1 x3 j = false)) (fun v5 _ => R.L.length - (intOf v5).toNat)
 case atStart => exact ⟨0, rfl, Nat.zero_le _, HB, HD, HC, ⟨fun j hj => absurd hj (Nat.not_lt_zero _)⟩⟩
 case round =>
  obtain ⟨k, rfl, hk, HBr, HDr, HCr, HN⟩ := hrel
  clear HB HD HC q0 q1 q2 q3 q4 q5 q6 q7 r0 r1 r2 r3 r4 r5 n0 n2
  obtain ⟨q0, q1, q2, q3, q4, q5, q6, q7⟩ := box_cells HCr.out
  obtain ⟨r0, r1, r2, r3, r4, r5⟩ := boxR_cells HDr.out
  by_cases hlt : k < R.L.length
  ·obtain ⟨ad1, he1, m0, m1, _⟩ := at_T81 (Kd.C_below H1.out.1 HBr.out) (k : Int) (by omega) (by omega)
   subst he1
   have d1 : decide ((k : Int) < (R.L.length : Int)) = true := decide_eq_true (by omega)
   have n1 : (0 : Int) ≤ (k : Int) := by omega
   have n2 : (k : Int) < (R.L.length : Int) := by omega
   obtain ⟨r, hr⟩ : ∃ r, r = rd_T81 R.L (k : Int) := ⟨_, rfl⟩
   rw [← hr, Int.toNat_natCast] at m0 m1
   by_cases g1 : r.f0 = x1
   ·have e1 : (r.f0 == x1) = true := beq_iff_eq.2 g1
    by_cases g2 : r.f1.f0.toList = x3.toList
    ·have hh : R.hit x1 x3 k = true := by unfold Ref.hit; rw [← hr, decide_eq_true g1, decide_eq_true g2]; rfl
     exact absurd hh (by rw [HNO.out k hlt]; decide)
    ·have e2 : (r.f1.f0.toList == x3.toList) = false := beq_eq_false_iff_ne.2 g2
     have hh : R.hit x1 x3 k = false := by unfold Ref.hit; rw [← hr, decide_eq_true g1, decide_eq_false g2]; rfl
     have HN1 : Aside0 (∀ j, j < k + 1 → R.hit x1 x3 j = false) := ⟨fun j hj => by
      by_cases c : j = k
      ·subst c; exact hh
      ·exact HN.out j (by omega)⟩
     clear hh g1 g2 hr hlt HN
     go_wp2_with fail
     go_big_quiet (fail)
     go_wp2
     go_roundw
     case rel => exact ⟨k + 1, by go_num, by omega, ⟨below_step HBr.out (by repeat (first | exact Below.refl _ _ | apply pw_below_drewN | apply below_drew1))⟩, HDr, HCr, HN1⟩
     case measure => simp [intOf]; omega
   ·have e1 : (r.f0 == x1) = false := beq_eq_false_iff_ne.2 g1
    have hh : R.hit x1 x3 k = false := by unfold Ref.hit; rw [← hr, decide_eq_false g1, Bool.false_and]
    have HN1 : Aside0 (∀ j, j < k + 1 → R.hit x1 x3 j = false) := ⟨fun j hj => by
     by_cases c : j = k
     ·subst c; exact hh
     ·exact HN.out j (by omega)⟩
    clear hh g1 hr hlt HN
    go_wp2_with fail
    go_big_quiet (fail)
    go_wp2
    go_roundw
    case rel => exact ⟨k + 1, by go_num, by omega, ⟨below_step HBr.out (by repeat (first | exact Below.refl _ _ | apply pw_below_drewN | apply below_drew1))⟩, HDr, HCr, HN1⟩
    case measure => simp [intOf]; omega
  ·have d1 : decide ((k : Int) < (R.L.length : Int)) = false := decide_eq_false (by omega)
   clear HN hk
   have HB := HBr
   have HD := HDr
   have HC := HCr
   clear HBr HDr HCr
   go_wp2_with fail
   refine (HH2.out _ HB.out).mono ?_
   rintro e w1 ⟨rfl, hb1⟩
   have hlt := blk_lt HC.out
   have e1 := (hb1.block _ (by omega)).trans HD.out
   have e2 := (hb1.block _ hlt).trans HC.out
   have HB' := Aside0.mk (below_step HB.out hb1)
   clear q0 q1 q2 q3 q4 q5 q6 q7 r0 r1 r2 r3 r4 r5 hb1 hlt HB HD HC
   have HB := HB'
   have HD := Aside0.mk e1
   have HC := Aside0.mk e2
   obtain ⟨q0, q1, q2, q3, q4, q5, q6, q7⟩ := box_cells e2
   obtain ⟨r0, r1, r2, r3, r4, r5⟩ := boxR_cells e1
   clear e1 e2 HB'
   go_wp2
   go_ret
   exact ⟨rfl, HB.out⟩
set_option maxHeartbeats 8000000 in
set_option maxRecDepth 100000 in
theorem wrong_2d (R : Ref) (c : Chg) (w : World) (vs : Array Value) (h : RefAt R w vs) (hk : c.f0 = 2) (h1 : R.has c.f1 = true) (hkd : (R.n c.f1).f2 = 2) (hs : c.f3.size ≤ 1000000) (hg : goodB c.f3 = true) (hLL : R.L.length ≤ 1000000) (hno : ∀ j, j < R.L.length → R.hit c.f1 c.f3 j = false) (hh : R.has c.f2 = true) (hk2 : (R.n c.f2).f2 = 2) :
  Calls Try.prog 31 #[.agg vs, .agg (encC c).toArray] w fun e w' => e = .returned (.int .i64 1) ∧ Below w.heap.size w w' := by
 obtain ⟨x0, x1, x2, x3, x4, x5, x6, x7⟩ := c
 simp only at *
 subst hk
 have cH := fun W (hB : Below w.heap.size w W) => refHas_calls R x1 W vs (h.below hB)
 rw [h1] at cH
 have HX1 := Aside0.mk h1
 clear h1
 have HH := Aside0.mk cH
 clear cH
 unfold Ref.n at *
 have dk2 : ((rd_T36 R.N x1).f2 != 2) = false := by rw [bne_eq_false_iff_eq]; exact hkd
 clear hkd
 have cG := fun W => refGood_calls x3 W hs
 rw [hg] at cG
 have HG := Aside0.mk cG
 clear cG hg hs
 have HNO := Aside0.mk hno
 clear hno
 have cH2 := fun W (hB : Below w.heap.size w W) => refHas_calls R x2 W vs (h.below hB)
 rw [hh] at cH2
 have HX2 := Aside0.mk hh
 clear hh
 have HH2 := Aside0.mk cH2
 clear cH2
 have ek2 : ((rd_T36 R.N x2).f2 == 2) = true := by rw [beq_iff_eq]; exact hk2
 clear hk2
 have hin2 : 0 ≤ x2 ∧ x2 < R.N.length := of_decide_eq_true HX2.out
 have b3 := hin2.1
 have b4 := hin2.2
 clear hin2
 have hin1 : 0 ≤ x1 ∧ x1 < R.N.length := of_decide_eq_true HX1.out
 obtain ⟨A0, c0, A1, c1, A2, c2, A3, c3, A4, c4, A5, c5, rfl, h0, h1, h2, h3, h4, h5⟩ := h
 obtain ⟨ad0, he0, _⟩ := at_T36 h0.1 x1 hin1.1 hin1.2
 subst he0
 have b1 := hin1.1
 have b2 := hin1.2
 clear hin1
 have H0 := Aside0.mk h0
 have H1 := Aside0.mk h1
 have H2 := Aside0.mk h2
 obtain ⟨W0, hW0⟩ : ∃ W0 : World, W0 = w.alloc (.cells #[.slice (some ad0) R.N.length c0, .slice A1 R.L.length c1, .slice A2 R.Cov.length c2, .slice A3 R.Dead.length c3, .slice A4 R.Above.length c4, .slice A5 R.Firsts.length c5] TR) := ⟨_, rfl⟩
 have hB0 : Below w.heap.size w W0 := by rw [hW0]; exact (Below.refl _ w).alloc (Nat.le_refl _) _
 have d0 := heap_alloc_new w (.cells #[.slice (some ad0) R.N.length c0, .slice A1 R.L.length c1, .slice A2 R.Cov.length c2, .slice A3 R.Dead.length c3, .slice A4 R.Above.length c4, .slice A5 R.Firsts.length c5] TR)
 rw [← hW0] at d0
 have hs0 : W0.heap.size = w.heap.size + 1 := by rw [hW0]; simp
 obtain ⟨W, hW⟩ : ∃ W : World, W = W0.alloc (.cells #[.int .i64 2, .int .i64 x1, .int .i64 x2, .string x3, .string x4, .int .i64 x5, .int .i64 x6, .int .i64 x7] TC) := ⟨_, rfl⟩
 have hB1 : Below W0.heap.size W0 W := by rw [hW]; exact (Below.refl _ W0).alloc (Nat.le_refl _) _
 have b0 := heap_alloc_new W0 (.cells #[.int .i64 2, .int .i64 x1, .int .i64 x2, .string x3, .string x4, .int .i64 x5, .int .i64 x6, .int .i64 x7] TC)
 rw [← hW, hs0] at b0
 have d1 := (hB1.block w.heap.size (by omega)).trans d0
 have HB := Aside0.mk (below_step hB0 hB1)
 obtain ⟨q0, q1, q2, q3, q4, q5, q6, q7⟩ := box_cells b0
 obtain ⟨r0, r1, r2, r3, r4, r5⟩ := boxR_cells d1
 have HD := Aside0.mk d1
 have HC := Aside0.mk b0
 have HS0 := Aside0.mk hs0
 unfold encC
 clear hB0 d0 hB1 b0 d1 h0 h1 h2 h3 h4 h5 hs0
 go_enter Try.func31, Try.ntmps31
 go_wp2_with fail
 rw [← hW0, ← hW]
 clear hW hW0
 refine (HH.out W HB.out).mono ?_
 rintro e w1 ⟨rfl, hb1⟩
 have hlt := blk_lt HC.out
 have e1 := (hb1.block _ (by omega)).trans HD.out
 have e2 := (hb1.block _ hlt).trans HC.out
 have HB' := Aside0.mk (below_step HB.out hb1)
 clear q0 q1 q2 q3 q4 q5 q6 q7 r0 r1 r2 r3 r4 r5 hb1 hlt HB HD HC
 have HB := HB'
 have HD := Aside0.mk e1
 have HC := Aside0.mk e2
 obtain ⟨q0, q1, q2, q3, q4, q5, q6, q7⟩ := box_cells e2
 obtain ⟨r0, r1, r2, r3, r4, r5⟩ := boxR_cells e1
 clear e1 e2 HB'
 obtain ⟨n0, n2⟩ := nodeR (Kd.C_below H0.out.1 HB.out) x1 b1 b2
 go_wp2_with fail
 refine ((HG.out _).mono fun e w' hp => (⟨hp.1, Drawn0.below hp.2⟩ : _ ∧ Below _ _ w')).mono ?_
 rintro e w1 ⟨rfl, hb1⟩
 have hlt := blk_lt HC.out
 have e1 := (hb1.block _ (by omega)).trans HD.out
 have e2 := (hb1.block _ hlt).trans HC.out
 have HB' := Aside0.mk (below_step HB.out hb1)
 clear q0 q1 q2 q3 q4 q5 q6 q7 r0 r1 r2 r3 r4 r5 hb1 hlt HB HD HC
 have HB := HB'
 have HD := Aside0.mk e1
 have HC := Aside0.mk e2
 obtain ⟨q0, q1, q2, q3, q4, q5, q6, q7⟩ := box_cells e2
 obtain ⟨r0, r1, r2, r3, r4, r5⟩ := boxR_cells e1
 clear e1 e2 HB'
 go_wp2
 go_loopw [5] (fun v5 wr => ∃ k : Nat, v5 = .int .i64 k ∧ k ≤ R.L.length ∧ Aside0 (Below w.heap.size w wr) ∧ Aside0 (wr.heap[w.heap.size]? = some (.cells #[.slice (some ad0) R.N.length c0, .slice A1 R.L.length c1, .slice A2 R.Cov.length c2, .slice A3 R.Dead.length c3, .slice A4 R.Above.length c4, .slice A5 R.Firsts.length c5] TR (0, 0))) ∧ Aside0 (wr.heap[w.heap.size + 1]? = some (.cells #[.int .i64 2, .int .i64 x1, .int .i64 x2, .string x3, .string x4, .int .i64 x5, .int .i64 x6, .int .i64 x7] TC (0, 0))) ∧ Aside0 (∀ j, j < k → R.hit x1 x3 j = false)) (fun v5 _ => R.L.length - (intOf v5).toNat)
 case atStart => exact ⟨0, rfl, Nat.zero_le _, HB, HD, HC, ⟨fun j hj => absurd hj (Nat.not_lt_zero _)⟩⟩
 case round =>
  obtain ⟨k, rfl, hk, HBr, HDr, HCr, HN⟩ := hrel
  clear HB HD HC q0 q1 q2 q3 q4 q5 q6 q7 r0 r1 r2 r3 r4 r5 n0 n2
  obtain ⟨q0, q1, q2, q3, q4, q5, q6, q7⟩ := box_cells HCr.out
  obtain ⟨r0, r1, r2, r3, r4, r5⟩ := boxR_cells HDr.out
  by_cases hlt : k < R.L.length
  ·obtain ⟨ad1, he1, m0, m1, _⟩ := at_T81 (Kd.C_below H1.out.1 HBr.out) (k : Int) (by omega) (by omega)
   subst he1
   have d1 : decide ((k : Int) < (R.L.length : Int)) = true := decide_eq_true (by omega)
   have n1 : (0 : Int) ≤ (k : Int) := by omega
   have n2 : (k : Int) < (R.L.length : Int) := by omega
   obtain ⟨r, hr⟩ : ∃ r, r = rd_T81 R.L (k : Int) := ⟨_, rfl⟩
   rw [← hr, Int.toNat_natCast] at m0 m1
   by_cases g1 : r.f0 = x1
   ·have e1 : (r.f0 == x1) = true := beq_iff_eq.2 g1
    by_cases g2 : r.f1.f0.toList = x3.toList
    ·have hh : R.hit x1 x3 k = true := by unfold Ref.hit; rw [← hr, decide_eq_true g1, decide_eq_true g2]; rfl
     exact absurd hh (by rw [HNO.out k hlt]; decide)
    ·have e2 : (r.f1.f0.toList == x3.toList) = false := beq_eq_false_iff_ne.2 g2
     have hh : R.hit x1 x3 k = false := by unfold Ref.hit; rw [← hr, decide_eq_true g1, decide_eq_false g2]; rfl
     have HN1 : Aside0 (∀ j, j < k + 1 → R.hit x1 x3 j = false) := ⟨fun j hj => by
      by_cases c : j = k
      ·subst c; exact hh
      ·exact HN.out j (by omega)⟩
     clear hh g1 g2 hr hlt HN
     go_wp2_with fail
     go_big_quiet (fail)
     go_wp2
     go_roundw
     case rel => exact ⟨k + 1, by go_num, by omega, ⟨below_step HBr.out (by repeat (first | exact Below.refl _ _ | apply pw_below_drewN | apply below_drew1))⟩, HDr, HCr, HN1⟩
     case measure => simp [intOf]; omega
   ·have e1 : (r.f0 == x1) = false := beq_eq_false_iff_ne.2 g1
    have hh : R.hit x1 x3 k = false := by unfold Ref.hit; rw [← hr, decide_eq_false g1, Bool.false_and]
    have HN1 : Aside0 (∀ j, j < k + 1 → R.hit x1 x3 j = false) := ⟨fun j hj => by
     by_cases c : j = k
     ·subst c; exact hh
     ·exact HN.out j (by omega)⟩
    clear hh g1 hr hlt HN
    go_wp2_with fail
    go_big_quiet (fail)
    go_wp2
    go_roundw
    case rel => exact ⟨k + 1, by go_num, by omega, ⟨below_step HBr.out (by repeat (first | exact Below.refl _ _ | apply pw_below_drewN | apply below_drew1))⟩, HDr, HCr, HN1⟩
    case measure => simp [intOf]; omega
  ·have d1 : decide ((k : Int) < (R.L.length : Int)) = false := decide_eq_false (by omega)
   clear HN hk
   have HB := HBr
   have HD := HDr
   have HC := HCr
   clear HBr HDr HCr
   go_wp2_with fail
   refine (HH2.out _ HB.out).mono ?_
   rintro e w1 ⟨rfl, hb1⟩
   have hlt := blk_lt HC.out
   have e1 := (hb1.block _ (by omega)).trans HD.out
   have e2 := (hb1.block _ hlt).trans HC.out
   have HB' := Aside0.mk (below_step HB.out hb1)
   clear q0 q1 q2 q3 q4 q5 q6 q7 r0 r1 r2 r3 r4 r5 hb1 hlt HB HD HC
   have HB := HB'
   have HD := Aside0.mk e1
   have HC := Aside0.mk e2
   obtain ⟨q0, q1, q2, q3, q4, q5, q6, q7⟩ := box_cells e2
   obtain ⟨r0, r1, r2, r3, r4, r5⟩ := boxR_cells e1
   clear e1 e2 HB'
   obtain ⟨n0, n2⟩ := nodeR (Kd.C_below H0.out.1 HB.out) x2 b3 b4
   obtain ⟨n01, n21⟩ := nodeR (Kd.C_below H0.out.1 HB.out) x1 b1 b2
   go_wp2
   try simp only [List.append]
   go_big_quiet (fail)
   go_wp2
   go_ret
   exact ⟨rfl, below_step HB.out (by repeat (first | exact Below.refl _ _ | apply pw_below_drewN | apply below_drew1))⟩
set_option maxHeartbeats 8000000 in
set_option maxRecDepth 100000 in
theorem wrong_2v (R : Ref) (c : Chg) (w : World) (vs : Array Value) (h : RefAt R w vs) (hk : c.f0 = 2) (h1 : R.has c.f1 = true) (hkd : (R.n c.f1).f2 = 2) (hs : c.f3.size ≤ 1000000) (hg : goodB c.f3 = true) (hLL : R.L.length ≤ 1000000) (hno : ∀ j, j < R.L.length → R.hit c.f1 c.f3 j = false) (hh : R.has c.f2 = true) (hk2 : (R.n c.f2).f2 ≠ 2) (hdv : (R.n c.f2).f0 ≠ (R.n c.f1).f0) :
  Calls Try.prog 31 #[.agg vs, .agg (encC c).toArray] w fun e w' => e = .returned (.int .i64 1) ∧ Below w.heap.size w w' := by
 obtain ⟨x0, x1, x2, x3, x4, x5, x6, x7⟩ := c
 simp only at *
 subst hk
 have cH := fun W (hB : Below w.heap.size w W) => refHas_calls R x1 W vs (h.below hB)
 rw [h1] at cH
 have HX1 := Aside0.mk h1
 clear h1
 have HH := Aside0.mk cH
 clear cH
 unfold Ref.n at *
 have dk2 : ((rd_T36 R.N x1).f2 != 2) = false := by rw [bne_eq_false_iff_eq]; exact hkd
 clear hkd
 have cG := fun W => refGood_calls x3 W hs
 rw [hg] at cG
 have HG := Aside0.mk cG
 clear cG hg hs
 have HNO := Aside0.mk hno
 clear hno
 have cH2 := fun W (hB : Below w.heap.size w W) => refHas_calls R x2 W vs (h.below hB)
 rw [hh] at cH2
 have HX2 := Aside0.mk hh
 clear hh
 have HH2 := Aside0.mk cH2
 clear cH2
 have ek2 : ((rd_T36 R.N x2).f2 == 2) = false := by rw [beq_eq_false_iff_ne]; exact hk2
 clear hk2
 have edv : ((rd_T36 R.N x2).f0 != (rd_T36 R.N x1).f0) = true := by rw [bne_iff_ne]; exact hdv
 clear hdv
 have hin2 : 0 ≤ x2 ∧ x2 < R.N.length := of_decide_eq_true HX2.out
 have b3 := hin2.1
 have b4 := hin2.2
 clear hin2
 have hin1 : 0 ≤ x1 ∧ x1 < R.N.length := of_decide_eq_true HX1.out
 obtain ⟨A0, c0, A1, c1, A2, c2, A3, c3, A4, c4, A5, c5, rfl, h0, h1, h2, h3, h4, h5⟩ := h
 obtain ⟨ad0, he0, _⟩ := at_T36 h0.1 x1 hin1.1 hin1.2
 subst he0
 have b1 := hin1.1
 have b2 := hin1.2
 clear hin1
 have H0 := Aside0.mk h0
 have H1 := Aside0.mk h1
 have H2 := Aside0.mk h2
 obtain ⟨W0, hW0⟩ : ∃ W0 : World, W0 = w.alloc (.cells #[.slice (some ad0) R.N.length c0, .slice A1 R.L.length c1, .slice A2 R.Cov.length c2, .slice A3 R.Dead.length c3, .slice A4 R.Above.length c4, .slice A5 R.Firsts.length c5] TR) := ⟨_, rfl⟩
 have hB0 : Below w.heap.size w W0 := by rw [hW0]; exact (Below.refl _ w).alloc (Nat.le_refl _) _
 have d0 := heap_alloc_new w (.cells #[.slice (some ad0) R.N.length c0, .slice A1 R.L.length c1, .slice A2 R.Cov.length c2, .slice A3 R.Dead.length c3, .slice A4 R.Above.length c4, .slice A5 R.Firsts.length c5] TR)
 rw [← hW0] at d0
 have hs0 : W0.heap.size = w.heap.size + 1 := by rw [hW0]; simp
 obtain ⟨W, hW⟩ : ∃ W : World, W = W0.alloc (.cells #[.int .i64 2, .int .i64 x1, .int .i64 x2, .string x3, .string x4, .int .i64 x5, .int .i64 x6, .int .i64 x7] TC) := ⟨_, rfl⟩
 have hB1 : Below W0.heap.size W0 W := by rw [hW]; exact (Below.refl _ W0).alloc (Nat.le_refl _) _
 have b0 := heap_alloc_new W0 (.cells #[.int .i64 2, .int .i64 x1, .int .i64 x2, .string x3, .string x4, .int .i64 x5, .int .i64 x6, .int .i64 x7] TC)
 rw [← hW, hs0] at b0
 have d1 := (hB1.block w.heap.size (by omega)).trans d0
 have HB := Aside0.mk (below_step hB0 hB1)
 obtain ⟨q0, q1, q2, q3, q4, q5, q6, q7⟩ := box_cells b0
 obtain ⟨r0, r1, r2, r3, r4, r5⟩ := boxR_cells d1
 have HD := Aside0.mk d1
 have HC := Aside0.mk b0
 have HS0 := Aside0.mk hs0
 unfold encC
 clear hB0 d0 hB1 b0 d1 h0 h1 h2 h3 h4 h5 hs0
 go_enter Try.func31, Try.ntmps31
 go_wp2_with fail
 rw [← hW0, ← hW]
 clear hW hW0
 refine (HH.out W HB.out).mono ?_
 rintro e w1 ⟨rfl, hb1⟩
 have hlt := blk_lt HC.out
 have e1 := (hb1.block _ (by omega)).trans HD.out
 have e2 := (hb1.block _ hlt).trans HC.out
 have HB' := Aside0.mk (below_step HB.out hb1)
 clear q0 q1 q2 q3 q4 q5 q6 q7 r0 r1 r2 r3 r4 r5 hb1 hlt HB HD HC
 have HB := HB'
 have HD := Aside0.mk e1
 have HC := Aside0.mk e2
 obtain ⟨q0, q1, q2, q3, q4, q5, q6, q7⟩ := box_cells e2
 obtain ⟨r0, r1, r2, r3, r4, r5⟩ := boxR_cells e1
 clear e1 e2 HB'
 obtain ⟨n0, n2⟩ := nodeR (Kd.C_below H0.out.1 HB.out) x1 b1 b2
 go_wp2_with fail
 refine ((HG.out _).mono fun e w' hp => (⟨hp.1, Drawn0.below hp.2⟩ : _ ∧ Below _ _ w')).mono ?_
 rintro e w1 ⟨rfl, hb1⟩
 have hlt := blk_lt HC.out
 have e1 := (hb1.block _ (by omega)).trans HD.out
 have e2 := (hb1.block _ hlt).trans HC.out
 have HB' := Aside0.mk (below_step HB.out hb1)
 clear q0 q1 q2 q3 q4 q5 q6 q7 r0 r1 r2 r3 r4 r5 hb1 hlt HB HD HC
 have HB := HB'
 have HD := Aside0.mk e1
 have HC := Aside0.mk e2
 obtain ⟨q0, q1, q2, q3, q4, q5, q6, q7⟩ := box_cells e2
 obtain ⟨r0, r1, r2, r3, r4, r5⟩ := boxR_cells e1
 clear e1 e2 HB'
 go_wp2
 go_loopw [5] (fun v5 wr => ∃ k : Nat, v5 = .int .i64 k ∧ k ≤ R.L.length ∧ Aside0 (Below w.heap.size w wr) ∧ Aside0 (wr.heap[w.heap.size]? = some (.cells #[.slice (some ad0) R.N.length c0, .slice A1 R.L.length c1, .slice A2 R.Cov.length c2, .slice A3 R.Dead.length c3, .slice A4 R.Above.length c4, .slice A5 R.Firsts.length c5] TR (0, 0))) ∧ Aside0 (wr.heap[w.heap.size + 1]? = some (.cells #[.int .i64 2, .int .i64 x1, .int .i64 x2, .string x3, .string x4, .int .i64 x5, .int .i64 x6, .int .i64 x7] TC (0, 0))) ∧ Aside0 (∀ j, j < k → R.hit x1 x3 j = false)) (fun v5 _ => R.L.length - (intOf v5).toNat)
 case atStart => exact ⟨0, rfl, Nat.zero_le _, HB, HD, HC, ⟨fun j hj => absurd hj (Nat.not_lt_zero _)⟩⟩
 case round =>
  obtain ⟨k, rfl, hk, HBr, HDr, HCr, HN⟩ := hrel
  clear HB HD HC q0 q1 q2 q3 q4 q5 q6 q7 r0 r1 r2 r3 r4 r5 n0 n2
  obtain ⟨q0, q1, q2, q3, q4, q5, q6, q7⟩ := box_cells HCr.out
  obtain ⟨r0, r1, r2, r3, r4, r5⟩ := boxR_cells HDr.out
  by_cases hlt : k < R.L.length
  ·obtain ⟨ad1, he1, m0, m1, _⟩ := at_T81 (Kd.C_below H1.out.1 HBr.out) (k : Int) (by omega) (by omega)
   subst he1
   have d1 : decide ((k : Int) < (R.L.length : Int)) = true := decide_eq_true (by omega)
   have n1 : (0 : Int) ≤ (k : Int) := by omega
   have n2 : (k : Int) < (R.L.length : Int) := by omega
   obtain ⟨r, hr⟩ : ∃ r, r = rd_T81 R.L (k : Int) := ⟨_, rfl⟩
   rw [← hr, Int.toNat_natCast] at m0 m1
   by_cases g1 : r.f0 = x1
   ·have e1 : (r.f0 == x1) = true := beq_iff_eq.2 g1
    by_cases g2 : r.f1.f0.toList = x3.toList
    ·have hh : R.hit x1 x3 k = true := by unfold Ref.hit; rw [← hr, decide_eq_true g1, decide_eq_true g2]; rfl
     exact absurd hh (by rw [HNO.out k hlt]; decide)
    ·have e2 : (r.f1.f0.toList == x3.toList) = false := beq_eq_false_iff_ne.2 g2
     have hh : R.hit x1 x3 k = false := by unfold Ref.hit; rw [← hr, decide_eq_true g1, decide_eq_false g2]; rfl
     have HN1 : Aside0 (∀ j, j < k + 1 → R.hit x1 x3 j = false) := ⟨fun j hj => by
      by_cases c : j = k
      ·subst c; exact hh
      ·exact HN.out j (by omega)⟩
     clear hh g1 g2 hr hlt HN
     go_wp2_with fail
     go_big_quiet (fail)
     go_wp2
     go_roundw
     case rel => exact ⟨k + 1, by go_num, by omega, ⟨below_step HBr.out (by repeat (first | exact Below.refl _ _ | apply pw_below_drewN | apply below_drew1))⟩, HDr, HCr, HN1⟩
     case measure => simp [intOf]; omega
   ·have e1 : (r.f0 == x1) = false := beq_eq_false_iff_ne.2 g1
    have hh : R.hit x1 x3 k = false := by unfold Ref.hit; rw [← hr, decide_eq_false g1, Bool.false_and]
    have HN1 : Aside0 (∀ j, j < k + 1 → R.hit x1 x3 j = false) := ⟨fun j hj => by
     by_cases c : j = k
     ·subst c; exact hh
     ·exact HN.out j (by omega)⟩
    clear hh g1 hr hlt HN
    go_wp2_with fail
    go_big_quiet (fail)
    go_wp2
    go_roundw
    case rel => exact ⟨k + 1, by go_num, by omega, ⟨below_step HBr.out (by repeat (first | exact Below.refl _ _ | apply pw_below_drewN | apply below_drew1))⟩, HDr, HCr, HN1⟩
    case measure => simp [intOf]; omega
  ·have d1 : decide ((k : Int) < (R.L.length : Int)) = false := decide_eq_false (by omega)
   clear HN hk
   have HB := HBr
   have HD := HDr
   have HC := HCr
   clear HBr HDr HCr
   go_wp2_with fail
   refine (HH2.out _ HB.out).mono ?_
   rintro e w1 ⟨rfl, hb1⟩
   have hlt := blk_lt HC.out
   have e1 := (hb1.block _ (by omega)).trans HD.out
   have e2 := (hb1.block _ hlt).trans HC.out
   have HB' := Aside0.mk (below_step HB.out hb1)
   clear q0 q1 q2 q3 q4 q5 q6 q7 r0 r1 r2 r3 r4 r5 hb1 hlt HB HD HC
   have HB := HB'
   have HD := Aside0.mk e1
   have HC := Aside0.mk e2
   obtain ⟨q0, q1, q2, q3, q4, q5, q6, q7⟩ := box_cells e2
   obtain ⟨r0, r1, r2, r3, r4, r5⟩ := boxR_cells e1
   clear e1 e2 HB'
   obtain ⟨n0, n2⟩ := nodeR (Kd.C_below H0.out.1 HB.out) x2 b3 b4
   obtain ⟨n01, n21⟩ := nodeR (Kd.C_below H0.out.1 HB.out) x1 b1 b2
   go_wp2
   try simp only [List.append]
   go_big_quiet (fail)
   go_wp2
   go_ret
   exact ⟨rfl, below_step HB.out (by repeat (first | exact Below.refl _ _ | apply pw_below_drewN | apply below_drew1))⟩
set_option maxHeartbeats 8000000 in
set_option maxRecDepth 100000 in
theorem wrong_2 (R : Ref) (c : Chg) (w : World) (vs : Array Value) (h : RefAt R w vs) (hk : c.f0 = 2) (h1 : R.has c.f1 = true) (hkd : (R.n c.f1).f2 = 2) (hs : c.f3.size ≤ 1000000) (hg : goodB c.f3 = true) (hLL : R.L.length ≤ 1000000) (hno : ∀ j, j < R.L.length → R.hit c.f1 c.f3 j = false) (hh : R.has c.f2 = true) (hk2 : (R.n c.f2).f2 ≠ 2) (hdv : (R.n c.f2).f0 = (R.n c.f1).f0) :
  Calls Try.prog 31 #[.agg vs, .agg (encC c).toArray] w fun e w' => e = .returned (.int .i64 0) ∧ Below w.heap.size w w' := by
 obtain ⟨x0, x1, x2, x3, x4, x5, x6, x7⟩ := c
 simp only at *
 subst hk
 have cH := fun W (hB : Below w.heap.size w W) => refHas_calls R x1 W vs (h.below hB)
 rw [h1] at cH
 have HX1 := Aside0.mk h1
 clear h1
 have HH := Aside0.mk cH
 clear cH
 unfold Ref.n at *
 have dk2 : ((rd_T36 R.N x1).f2 != 2) = false := by rw [bne_eq_false_iff_eq]; exact hkd
 clear hkd
 have cG := fun W => refGood_calls x3 W hs
 rw [hg] at cG
 have HG := Aside0.mk cG
 clear cG hg hs
 have HNO := Aside0.mk hno
 clear hno
 have cH2 := fun W (hB : Below w.heap.size w W) => refHas_calls R x2 W vs (h.below hB)
 rw [hh] at cH2
 have HX2 := Aside0.mk hh
 clear hh
 have HH2 := Aside0.mk cH2
 clear cH2
 have ek2 : ((rd_T36 R.N x2).f2 == 2) = false := by rw [beq_eq_false_iff_ne]; exact hk2
 clear hk2
 have edv : ((rd_T36 R.N x2).f0 != (rd_T36 R.N x1).f0) = false := by rw [bne_eq_false_iff_eq]; exact hdv
 clear hdv
 have hin2 : 0 ≤ x2 ∧ x2 < R.N.length := of_decide_eq_true HX2.out
 have b3 := hin2.1
 have b4 := hin2.2
 clear hin2
 have hin1 : 0 ≤ x1 ∧ x1 < R.N.length := of_decide_eq_true HX1.out
 obtain ⟨A0, c0, A1, c1, A2, c2, A3, c3, A4, c4, A5, c5, rfl, h0, h1, h2, h3, h4, h5⟩ := h
 obtain ⟨ad0, he0, _⟩ := at_T36 h0.1 x1 hin1.1 hin1.2
 subst he0
 have b1 := hin1.1
 have b2 := hin1.2
 clear hin1
 have H0 := Aside0.mk h0
 have H1 := Aside0.mk h1
 have H2 := Aside0.mk h2
 obtain ⟨W0, hW0⟩ : ∃ W0 : World, W0 = w.alloc (.cells #[.slice (some ad0) R.N.length c0, .slice A1 R.L.length c1, .slice A2 R.Cov.length c2, .slice A3 R.Dead.length c3, .slice A4 R.Above.length c4, .slice A5 R.Firsts.length c5] TR) := ⟨_, rfl⟩
 have hB0 : Below w.heap.size w W0 := by rw [hW0]; exact (Below.refl _ w).alloc (Nat.le_refl _) _
 have d0 := heap_alloc_new w (.cells #[.slice (some ad0) R.N.length c0, .slice A1 R.L.length c1, .slice A2 R.Cov.length c2, .slice A3 R.Dead.length c3, .slice A4 R.Above.length c4, .slice A5 R.Firsts.length c5] TR)
 rw [← hW0] at d0
 have hs0 : W0.heap.size = w.heap.size + 1 := by rw [hW0]; simp
 obtain ⟨W, hW⟩ : ∃ W : World, W = W0.alloc (.cells #[.int .i64 2, .int .i64 x1, .int .i64 x2, .string x3, .string x4, .int .i64 x5, .int .i64 x6, .int .i64 x7] TC) := ⟨_, rfl⟩
 have hB1 : Below W0.heap.size W0 W := by rw [hW]; exact (Below.refl _ W0).alloc (Nat.le_refl _) _
 have b0 := heap_alloc_new W0 (.cells #[.int .i64 2, .int .i64 x1, .int .i64 x2, .string x3, .string x4, .int .i64 x5, .int .i64 x6, .int .i64 x7] TC)
 rw [← hW, hs0] at b0
 have d1 := (hB1.block w.heap.size (by omega)).trans d0
 have HB := Aside0.mk (below_step hB0 hB1)
 obtain ⟨q0, q1, q2, q3, q4, q5, q6, q7⟩ := box_cells b0
 obtain ⟨r0, r1, r2, r3, r4, r5⟩ := boxR_cells d1
 have HD := Aside0.mk d1
 have HC := Aside0.mk b0
 have HS0 := Aside0.mk hs0
 unfold encC
 clear hB0 d0 hB1 b0 d1 h0 h1 h2 h3 h4 h5 hs0
 go_enter Try.func31, Try.ntmps31
 go_wp2_with fail
 rw [← hW0, ← hW]
 clear hW hW0
 refine (HH.out W HB.out).mono ?_
 rintro e w1 ⟨rfl, hb1⟩
 have hlt := blk_lt HC.out
 have e1 := (hb1.block _ (by omega)).trans HD.out
 have e2 := (hb1.block _ hlt).trans HC.out
 have HB' := Aside0.mk (below_step HB.out hb1)
 clear q0 q1 q2 q3 q4 q5 q6 q7 r0 r1 r2 r3 r4 r5 hb1 hlt HB HD HC
 have HB := HB'
 have HD := Aside0.mk e1
 have HC := Aside0.mk e2
 obtain ⟨q0, q1, q2, q3, q4, q5, q6, q7⟩ := box_cells e2
 obtain ⟨r0, r1, r2, r3, r4, r5⟩ := boxR_cells e1
 clear e1 e2 HB'
 obtain ⟨n0, n2⟩ := nodeR (Kd.C_below H0.out.1 HB.out) x1 b1 b2
 go_wp2_with fail
 refine ((HG.out _).mono fun e w' hp => (⟨hp.1, Drawn0.below hp.2⟩ : _ ∧ Below _ _ w')).mono ?_
 rintro e w1 ⟨rfl, hb1⟩
 have hlt := blk_lt HC.out
 have e1 := (hb1.block _ (by omega)).trans HD.out
 have e2 := (hb1.block _ hlt).trans HC.out
 have HB' := Aside0.mk (below_step HB.out hb1)
 clear q0 q1 q2 q3 q4 q5 q6 q7 r0 r1 r2 r3 r4 r5 hb1 hlt HB HD HC
 have HB := HB'
 have HD := Aside0.mk e1
 have HC := Aside0.mk e2
 obtain ⟨q0, q1, q2, q3, q4, q5, q6, q7⟩ := box_cells e2
 obtain ⟨r0, r1, r2, r3, r4, r5⟩ := boxR_cells e1
 clear e1 e2 HB'
 go_wp2
 go_loopw [5] (fun v5 wr => ∃ k : Nat, v5 = .int .i64 k ∧ k ≤ R.L.length ∧ Aside0 (Below w.heap.size w wr) ∧ Aside0 (wr.heap[w.heap.size]? = some (.cells #[.slice (some ad0) R.N.length c0, .slice A1 R.L.length c1, .slice A2 R.Cov.length c2, .slice A3 R.Dead.length c3, .slice A4 R.Above.length c4, .slice A5 R.Firsts.length c5] TR (0, 0))) ∧ Aside0 (wr.heap[w.heap.size + 1]? = some (.cells #[.int .i64 2, .int .i64 x1, .int .i64 x2, .string x3, .string x4, .int .i64 x5, .int .i64 x6, .int .i64 x7] TC (0, 0))) ∧ Aside0 (∀ j, j < k → R.hit x1 x3 j = false)) (fun v5 _ => R.L.length - (intOf v5).toNat)
 case atStart => exact ⟨0, rfl, Nat.zero_le _, HB, HD, HC, ⟨fun j hj => absurd hj (Nat.not_lt_zero _)⟩⟩
 case round =>
  obtain ⟨k, rfl, hk, HBr, HDr, HCr, HN⟩ := hrel
  clear HB HD HC q0 q1 q2 q3 q4 q5 q6 q7 r0 r1 r2 r3 r4 r5 n0 n2
  obtain ⟨q0, q1, q2, q3, q4, q5, q6, q7⟩ := box_cells HCr.out
  obtain ⟨r0, r1, r2, r3, r4, r5⟩ := boxR_cells HDr.out
  by_cases hlt : k < R.L.length
  ·obtain ⟨ad1, he1, m0, m1, _⟩ := at_T81 (Kd.C_below H1.out.1 HBr.out) (k : Int) (by omega) (by omega)
   subst he1
   have d1 : decide ((k : Int) < (R.L.length : Int)) = true := decide_eq_true (by omega)
   have n1 : (0 : Int) ≤ (k : Int) := by omega
   have n2 : (k : Int) < (R.L.length : Int) := by omega
   obtain ⟨r, hr⟩ : ∃ r, r = rd_T81 R.L (k : Int) := ⟨_, rfl⟩
   rw [← hr, Int.toNat_natCast] at m0 m1
   by_cases g1 : r.f0 = x1
   ·have e1 : (r.f0 == x1) = true := beq_iff_eq.2 g1
    by_cases g2 : r.f1.f0.toList = x3.toList
    ·have hh : R.hit x1 x3 k = true := by unfold Ref.hit; rw [← hr, decide_eq_true g1, decide_eq_true g2]; rfl
     exact absurd hh (by rw [HNO.out k hlt]; decide)
    ·have e2 : (r.f1.f0.toList == x3.toList) = false := beq_eq_false_iff_ne.2 g2
     have hh : R.hit x1 x3 k = false := by unfold Ref.hit; rw [← hr, decide_eq_true g1, decide_eq_false g2]; rfl
     have HN1 : Aside0 (∀ j, j < k + 1 → R.hit x1 x3 j = false) := ⟨fun j hj => by
      by_cases c : j = k
      ·subst c; exact hh
      ·exact HN.out j (by omega)⟩
     clear hh g1 g2 hr hlt HN
     go_wp2_with fail
     go_big_quiet (fail)
     go_wp2
     go_roundw
     case rel => exact ⟨k + 1, by go_num, by omega, ⟨below_step HBr.out (by repeat (first | exact Below.refl _ _ | apply pw_below_drewN | apply below_drew1))⟩, HDr, HCr, HN1⟩
     case measure => simp [intOf]; omega
   ·have e1 : (r.f0 == x1) = false := beq_eq_false_iff_ne.2 g1
    have hh : R.hit x1 x3 k = false := by unfold Ref.hit; rw [← hr, decide_eq_false g1, Bool.false_and]
    have HN1 : Aside0 (∀ j, j < k + 1 → R.hit x1 x3 j = false) := ⟨fun j hj => by
     by_cases c : j = k
     ·subst c; exact hh
     ·exact HN.out j (by omega)⟩
    clear hh g1 hr hlt HN
    go_wp2_with fail
    go_big_quiet (fail)
    go_wp2
    go_roundw
    case rel => exact ⟨k + 1, by go_num, by omega, ⟨below_step HBr.out (by repeat (first | exact Below.refl _ _ | apply pw_below_drewN | apply below_drew1))⟩, HDr, HCr, HN1⟩
    case measure => simp [intOf]; omega
  ·have d1 : decide ((k : Int) < (R.L.length : Int)) = false := decide_eq_false (by omega)
   clear HN hk
   have HB := HBr
   have HD := HDr
   have HC := HCr
   clear HBr HDr HCr
   go_wp2_with fail
   refine (HH2.out _ HB.out).mono ?_
   rintro e w1 ⟨rfl, hb1⟩
   have hlt := blk_lt HC.out
   have e1 := (hb1.block _ (by omega)).trans HD.out
   have e2 := (hb1.block _ hlt).trans HC.out
   have HB' := Aside0.mk (below_step HB.out hb1)
   clear q0 q1 q2 q3 q4 q5 q6 q7 r0 r1 r2 r3 r4 r5 hb1 hlt HB HD HC
   have HB := HB'
   have HD := Aside0.mk e1
   have HC := Aside0.mk e2
   obtain ⟨q0, q1, q2, q3, q4, q5, q6, q7⟩ := box_cells e2
   obtain ⟨r0, r1, r2, r3, r4, r5⟩ := boxR_cells e1
   clear e1 e2 HB'
   obtain ⟨n0, n2⟩ := nodeR (Kd.C_below H0.out.1 HB.out) x2 b3 b4
   obtain ⟨n01, n21⟩ := nodeR (Kd.C_below H0.out.1 HB.out) x1 b1 b2
   go_wp2
   try simp only [List.append]
   go_big_quiet (fail)
   go_wp2
   go_ret
   exact ⟨rfl, below_step HB.out (by repeat (first | exact Below.refl _ _ | apply pw_below_drewN | apply below_drew1))⟩
end Go.Proofs.Ytlfldoghomnbkaa.QVfs
