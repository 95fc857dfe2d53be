import Derived.Test.YtlfldoghomnbkaaKXVr1
-- Texts of this seat, what the claim does not reach struck out by a program.
namespace Go.Proofs.Ytlfldoghomnbkaa.QVfs
open Go.RowKit Go.Proofs.YtlfldoghomnbkaaW.PrintWords Go.Proofs.YtlfldoghomnbkaaW.PrintLast Go.Proofs.YtlfldoghomnbkaaW.PrintMore
set_option linter.unusedVariables false
set_option linter.unusedSimpArgs false
abbrev TR : Nat := 48
theorem z8_ {W : World} {b : Nat} {v0 v1 v2 v3 v4 v5 : Value} (h : W.heap[b]? = some (.cells #[v0, v1, v2, v3, v4, v5] TR (0, 0))) :
  W.cell? ⟨b, 0, none⟩ = some v0 ∧ W.cell? ⟨b, 1, none⟩ = some v1 ∧ W.cell? ⟨b, 2, none⟩ = some v2 ∧ W.cell? ⟨b, 3, none⟩ = some v3 ∧ W.cell? ⟨b, 4, none⟩ = some v4 ∧ W.cell? ⟨b, 5, none⟩ = some v5 :=
 ⟨(z4_ h 0).trans rfl, (z4_ h 1).trans rfl, (z4_ h 2).trans rfl, (z4_ h 3).trans rfl, (z4_ h 4).trans rfl, (z4_ h 5).trans rfl⟩
set_option maxHeartbeats 8000000 in
set_option maxRecDepth 100000 in
theorem wrong_none4 (R : Ref) (c : Chg) (w : World) (vs : Array Value) (h : RefAt R w vs) (hk : c.f0 = 4) (hh : R.has c.f2 = false) :
  Calls Try.prog 31 #[.agg vs, .agg (encC c).toArray] w fun e w' => e = .returned (.int .i64 2) ∧ Below w.heap.size w w' := by
 obtain ⟨x0, x1, x2, x3, x4, x5, x6, x7⟩ := c
 simp only at *
 subst hk
 have cH := fun W (hB : Below w.heap.size w W) => zh_ R x2 W vs (h.below hB)
 rw [hh] at cH
 have HX2 := z1_.mk hh
 clear hh
 have HH := z1_.mk cH
 clear cH
 obtain ⟨A0, c0, A1, c1, A2, c2, A3, c3, A4, c4, A5, c5, rfl, h0, h1, h2, h3, h4, h5⟩ := h
 have H0 := z1_.mk h0
 have H1 := z1_.mk h1
 have H2 := z1_.mk h2
 obtain ⟨W0, hW0⟩ : ∃ W0 : World, W0 = w.alloc (.cells #[.slice A0 R.N.length c0, .slice A1 R.L.length c1, .slice A2 R.Cov.length c2, .slice A3 R.Dead.length c3, .slice A4 R.Above.length c4, .slice A5 R.Firsts.length c5] TR) := ⟨_, rfl⟩
 have hB0 : Below w.heap.size w W0 := by rw [hW0]; exact (y6_ _ w).alloc (y2_ _) _
 have d0 := y5_ w (.cells #[.slice A0 R.N.length c0, .slice A1 R.L.length c1, .slice A2 R.Cov.length c2, .slice A3 R.Dead.length c3, .slice A4 R.Above.length c4, .slice A5 R.Firsts.length c5] TR)
 rw [← hW0] at d0
 have hs0 : W0.heap.size = w.heap.size + 1 := by rw [hW0]; simp
 obtain ⟨W, hW⟩ : ∃ W : World, W = W0.alloc (.cells #[.int .i64 4, .int .i64 x1, .int .i64 x2, .string x3, .string x4, .int .i64 x5, .int .i64 x6, .int .i64 x7] TC) := ⟨_, rfl⟩
 have hB1 : Below W0.heap.size W0 W := by rw [hW]; exact (y6_ _ W0).alloc (y2_ _) _
 have b0 := y5_ W0 (.cells #[.int .i64 4, .int .i64 x1, .int .i64 x2, .string x3, .string x4, .int .i64 x5, .int .i64 x6, .int .i64 x7] TC)
 rw [← hW, hs0] at b0
 have d1 := (hB1.block w.heap.size (by omega)).trans d0
 have HB := z1_.mk (z7_ hB0 hB1)
 obtain ⟨q0, q1, q2, q3, q4, q5, q6, q7⟩ := za_ b0
 obtain ⟨r0, r1, r2, r3, r4, r5⟩ := z8_ d1
 have HD := z1_.mk d1
 have HC := z1_.mk b0
 have HS0 := z1_.mk hs0
 unfold encC
 clear hB0 d0 hB1 b0 d1 h0 h1 h2 h3 h4 h5 hs0
 go_enter Try.func31, Try.ntmps31
 go_wp2_with fail
 rw [← hW0, ← hW]
 clear hW hW0
 refine (HH.out W HB.out).mono ?_
 rintro e w1 ⟨rfl, hb1⟩
 have hlt := zj_ HC.out
 have e1 := (hb1.block _ (by omega)).trans HD.out
 have e2 := (hb1.block _ hlt).trans HC.out
 have HB' := z1_.mk (z7_ HB.out hb1)
 clear q0 q1 q2 q3 q4 q5 q6 q7 r0 r1 r2 r3 r4 r5 hb1 hlt HB HD HC
 have HB := HB'
 have HD := z1_.mk e1
 have HC := z1_.mk e2
 obtain ⟨q0, q1, q2, q3, q4, q5, q6, q7⟩ := za_ e2
 obtain ⟨r0, r1, r2, r3, r4, r5⟩ := z8_ e1
 clear e1 e2 HB'
 go_wp2
 go_ret
 exact ⟨rfl, HB.out⟩
set_option maxHeartbeats 8000000 in
set_option maxRecDepth 100000 in
theorem wrong_none5 (R : Ref) (c : Chg) (w : World) (vs : Array Value) (h : RefAt R w vs) (hk : c.f0 = 5) (hh : R.has c.f2 = false) :
  Calls Try.prog 31 #[.agg vs, .agg (encC c).toArray] w fun e w' => e = .returned (.int .i64 2) ∧ Below w.heap.size w w' := by
 obtain ⟨x0, x1, x2, x3, x4, x5, x6, x7⟩ := c
 simp only at *
 subst hk
 have cH := fun W (hB : Below w.heap.size w W) => zh_ R x2 W vs (h.below hB)
 rw [hh] at cH
 have HX2 := z1_.mk hh
 clear hh
 have HH := z1_.mk cH
 clear cH
 obtain ⟨A0, c0, A1, c1, A2, c2, A3, c3, A4, c4, A5, c5, rfl, h0, h1, h2, h3, h4, h5⟩ := h
 have H0 := z1_.mk h0
 have H1 := z1_.mk h1
 have H2 := z1_.mk h2
 obtain ⟨W0, hW0⟩ : ∃ W0 : World, W0 = w.alloc (.cells #[.slice A0 R.N.length c0, .slice A1 R.L.length c1, .slice A2 R.Cov.length c2, .slice A3 R.Dead.length c3, .slice A4 R.Above.length c4, .slice A5 R.Firsts.length c5] TR) := ⟨_, rfl⟩
 have hB0 : Below w.heap.size w W0 := by rw [hW0]; exact (y6_ _ w).alloc (y2_ _) _
 have d0 := y5_ w (.cells #[.slice A0 R.N.length c0, .slice A1 R.L.length c1, .slice A2 R.Cov.length c2, .slice A3 R.Dead.length c3, .slice A4 R.Above.length c4, .slice A5 R.Firsts.length c5] TR)
 rw [← hW0] at d0
 have hs0 : W0.heap.size = w.heap.size + 1 := by rw [hW0]; simp
 obtain ⟨W, hW⟩ : ∃ W : World, W = W0.alloc (.cells #[.int .i64 5, .int .i64 x1, .int .i64 x2, .string x3, .string x4, .int .i64 x5, .int .i64 x6, .int .i64 x7] TC) := ⟨_, rfl⟩
 have hB1 : Below W0.heap.size W0 W := by rw [hW]; exact (y6_ _ W0).alloc (y2_ _) _
 have b0 := y5_ W0 (.cells #[.int .i64 5, .int .i64 x1, .int .i64 x2, .string x3, .string x4, .int .i64 x5, .int .i64 x6, .int .i64 x7] TC)
 rw [← hW, hs0] at b0
 have d1 := (hB1.block w.heap.size (by omega)).trans d0
 have HB := z1_.mk (z7_ hB0 hB1)
 obtain ⟨q0, q1, q2, q3, q4, q5, q6, q7⟩ := za_ b0
 obtain ⟨r0, r1, r2, r3, r4, r5⟩ := z8_ d1
 have HD := z1_.mk d1
 have HC := z1_.mk b0
 have HS0 := z1_.mk hs0
 unfold encC
 clear hB0 d0 hB1 b0 d1 h0 h1 h2 h3 h4 h5 hs0
 go_enter Try.func31, Try.ntmps31
 go_wp2_with fail
 rw [← hW0, ← hW]
 clear hW hW0
 refine (HH.out W HB.out).mono ?_
 rintro e w1 ⟨rfl, hb1⟩
 have hlt := zj_ HC.out
 have e1 := (hb1.block _ (by omega)).trans HD.out
 have e2 := (hb1.block _ hlt).trans HC.out
 have HB' := z1_.mk (z7_ HB.out hb1)
 clear q0 q1 q2 q3 q4 q5 q6 q7 r0 r1 r2 r3 r4 r5 hb1 hlt HB HD HC
 have HB := HB'
 have HD := z1_.mk e1
 have HC := z1_.mk e2
 obtain ⟨q0, q1, q2, q3, q4, q5, q6, q7⟩ := za_ e2
 obtain ⟨r0, r1, r2, r3, r4, r5⟩ := z8_ e1
 clear e1 e2 HB'
 go_wp2
 go_ret
 exact ⟨rfl, HB.out⟩
set_option maxHeartbeats 8000000 in
set_option maxRecDepth 100000 in
theorem wrong_none6 (R : Ref) (c : Chg) (w : World) (vs : Array Value) (h : RefAt R w vs) (hk : c.f0 = 6) (hh : R.has c.f2 = false) :
  Calls Try.prog 31 #[.agg vs, .agg (encC c).toArray] w fun e w' => e = .returned (.int .i64 2) ∧ Below w.heap.size w w' := by
 obtain ⟨x0, x1, x2, x3, x4, x5, x6, x7⟩ := c
 simp only at *
 subst hk
 have cH := fun W (hB : Below w.heap.size w W) => zh_ R x2 W vs (h.below hB)
 rw [hh] at cH
 have HX2 := z1_.mk hh
 clear hh
 have HH := z1_.mk cH
 clear cH
 obtain ⟨A0, c0, A1, c1, A2, c2, A3, c3, A4, c4, A5, c5, rfl, h0, h1, h2, h3, h4, h5⟩ := h
 have H0 := z1_.mk h0
 have H1 := z1_.mk h1
 have H2 := z1_.mk h2
 obtain ⟨W0, hW0⟩ : ∃ W0 : World, W0 = w.alloc (.cells #[.slice A0 R.N.length c0, .slice A1 R.L.length c1, .slice A2 R.Cov.length c2, .slice A3 R.Dead.length c3, .slice A4 R.Above.length c4, .slice A5 R.Firsts.length c5] TR) := ⟨_, rfl⟩
 have hB0 : Below w.heap.size w W0 := by rw [hW0]; exact (y6_ _ w).alloc (y2_ _) _
 have d0 := y5_ w (.cells #[.slice A0 R.N.length c0, .slice A1 R.L.length c1, .slice A2 R.Cov.length c2, .slice A3 R.Dead.length c3, .slice A4 R.Above.length c4, .slice A5 R.Firsts.length c5] TR)
 rw [← hW0] at d0
 have hs0 : W0.heap.size = w.heap.size + 1 := by rw [hW0]; simp
 obtain ⟨W, hW⟩ : ∃ W : World, W = W0.alloc (.cells #[.int .i64 6, .int .i64 x1, .int .i64 x2, .string x3, .string x4, .int .i64 x5, .int .i64 x6, .int .i64 x7] TC) := ⟨_, rfl⟩
 have hB1 : Below W0.heap.size W0 W := by rw [hW]; exact (y6_ _ W0).alloc (y2_ _) _
 have b0 := y5_ W0 (.cells #[.int .i64 6, .int .i64 x1, .int .i64 x2, .string x3, .string x4, .int .i64 x5, .int .i64 x6, .int .i64 x7] TC)
 rw [← hW, hs0] at b0
 have d1 := (hB1.block w.heap.size (by omega)).trans d0
 have HB := z1_.mk (z7_ hB0 hB1)
 obtain ⟨q0, q1, q2, q3, q4, q5, q6, q7⟩ := za_ b0
 obtain ⟨r0, r1, r2, r3, r4, r5⟩ := z8_ d1
 have HD := z1_.mk d1
 have HC := z1_.mk b0
 have HS0 := z1_.mk hs0
 unfold encC
 clear hB0 d0 hB1 b0 d1 h0 h1 h2 h3 h4 h5 hs0
 go_enter Try.func31, Try.ntmps31
 go_wp2_with fail
 rw [← hW0, ← hW]
 clear hW hW0
 refine (HH.out W HB.out).mono ?_
 rintro e w1 ⟨rfl, hb1⟩
 have hlt := zj_ HC.out
 have e1 := (hb1.block _ (by omega)).trans HD.out
 have e2 := (hb1.block _ hlt).trans HC.out
 have HB' := z1_.mk (z7_ HB.out hb1)
 clear q0 q1 q2 q3 q4 q5 q6 q7 r0 r1 r2 r3 r4 r5 hb1 hlt HB HD HC
 have HB := HB'
 have HD := z1_.mk e1
 have HC := z1_.mk e2
 obtain ⟨q0, q1, q2, q3, q4, q5, q6, q7⟩ := za_ e2
 obtain ⟨r0, r1, r2, r3, r4, r5⟩ := z8_ e1
 clear e1 e2 HB'
 go_wp2
 go_ret
 exact ⟨rfl, HB.out⟩
set_option maxHeartbeats 8000000 in
set_option maxRecDepth 100000 in
theorem wrong_none7 (R : Ref) (c : Chg) (w : World) (vs : Array Value) (h : RefAt R w vs) (hk : c.f0 = 7) (hh : R.has c.f2 = false) :
  Calls Try.prog 31 #[.agg vs, .agg (encC c).toArray] w fun e w' => e = .returned (.int .i64 2) ∧ Below w.heap.size w w' := by
 obtain ⟨x0, x1, x2, x3, x4, x5, x6, x7⟩ := c
 simp only at *
 subst hk
 have cH := fun W (hB : Below w.heap.size w W) => zh_ R x2 W vs (h.below hB)
 rw [hh] at cH
 have HX2 := z1_.mk hh
 clear hh
 have HH := z1_.mk cH
 clear cH
 obtain ⟨A0, c0, A1, c1, A2, c2, A3, c3, A4, c4, A5, c5, rfl, h0, h1, h2, h3, h4, h5⟩ := h
 have H0 := z1_.mk h0
 have H1 := z1_.mk h1
 have H2 := z1_.mk h2
 obtain ⟨W0, hW0⟩ : ∃ W0 : World, W0 = w.alloc (.cells #[.slice A0 R.N.length c0, .slice A1 R.L.length c1, .slice A2 R.Cov.length c2, .slice A3 R.Dead.length c3, .slice A4 R.Above.length c4, .slice A5 R.Firsts.length c5] TR) := ⟨_, rfl⟩
 have hB0 : Below w.heap.size w W0 := by rw [hW0]; exact (y6_ _ w).alloc (y2_ _) _
 have d0 := y5_ w (.cells #[.slice A0 R.N.length c0, .slice A1 R.L.length c1, .slice A2 R.Cov.length c2, .slice A3 R.Dead.length c3, .slice A4 R.Above.length c4, .slice A5 R.Firsts.length c5] TR)
 rw [← hW0] at d0
 have hs0 : W0.heap.size = w.heap.size + 1 := by rw [hW0]; simp
 obtain ⟨W, hW⟩ : ∃ W : World, W = W0.alloc (.cells #[.int .i64 7, .int .i64 x1, .int .i64 x2, .string x3, .string x4, .int .i64 x5, .int .i64 x6, .int .i64 x7] TC) := ⟨_, rfl⟩
 have hB1 : Below W0.heap.size W0 W := by rw [hW]; exact (y6_ _ W0).alloc (y2_ _) _
 have b0 := y5_ W0 (.cells #[.int .i64 7, .int .i64 x1, .int .i64 x2, .string x3, .string x4, .int .i64 x5, .int .i64 x6, .int .i64 x7] TC)
 rw [← hW, hs0] at b0
 have d1 := (hB1.block w.heap.size (by omega)).trans d0
 have HB := z1_.mk (z7_ hB0 hB1)
 obtain ⟨q0, q1, q2, q3, q4, q5, q6, q7⟩ := za_ b0
 obtain ⟨r0, r1, r2, r3, r4, r5⟩ := z8_ d1
 have HD := z1_.mk d1
 have HC := z1_.mk b0
 have HS0 := z1_.mk hs0
 unfold encC
 clear hB0 d0 hB1 b0 d1 h0 h1 h2 h3 h4 h5 hs0
 go_enter Try.func31, Try.ntmps31
 go_wp2_with fail
 rw [← hW0, ← hW]
 clear hW hW0
 refine (HH.out W HB.out).mono ?_
 rintro e w1 ⟨rfl, hb1⟩
 have hlt := zj_ HC.out
 have e1 := (hb1.block _ (by omega)).trans HD.out
 have e2 := (hb1.block _ hlt).trans HC.out
 have HB' := z1_.mk (z7_ HB.out hb1)
 clear q0 q1 q2 q3 q4 q5 q6 q7 r0 r1 r2 r3 r4 r5 hb1 hlt HB HD HC
 have HB := HB'
 have HD := z1_.mk e1
 have HC := z1_.mk e2
 obtain ⟨q0, q1, q2, q3, q4, q5, q6, q7⟩ := za_ e2
 obtain ⟨r0, r1, r2, r3, r4, r5⟩ := z8_ e1
 clear e1 e2 HB'
 go_wp2
 go_ret
 exact ⟨rfl, HB.out⟩
set_option maxHeartbeats 8000000 in
set_option maxRecDepth 100000 in
theorem wrong_none8 (R : Ref) (c : Chg) (w : World) (vs : Array Value) (h : RefAt R w vs) (hk : c.f0 = 8) (hh : R.has c.f2 = false) :
  Calls Try.prog 31 #[.agg vs, .agg (encC c).toArray] w fun e w' => e = .returned (.int .i64 2) ∧ Below w.heap.size w w' := by
 obtain ⟨x0, x1, x2, x3, x4, x5, x6, x7⟩ := c
 simp only at *
 subst hk
 have cH := fun W (hB : Below w.heap.size w W) => zh_ R x2 W vs (h.below hB)
 rw [hh] at cH
 have HX2 := z1_.mk hh
 clear hh
 have HH := z1_.mk cH
 clear cH
 obtain ⟨A0, c0, A1, c1, A2, c2, A3, c3, A4, c4, A5, c5, rfl, h0, h1, h2, h3, h4, h5⟩ := h
 have H0 := z1_.mk h0
 have H1 := z1_.mk h1
 have H2 := z1_.mk h2
 obtain ⟨W0, hW0⟩ : ∃ W0 : World, W0 = w.alloc (.cells #[.slice A0 R.N.length c0, .slice A1 R.L.length c1, .slice A2 R.Cov.length c2, .slice A3 R.Dead.length c3, .slice A4 R.Above.length c4, .slice A5 R.Firsts.length c5] TR) := ⟨_, rfl⟩
 have hB0 : Below w.heap.size w W0 := by rw [hW0]; exact (y6_ _ w).alloc (y2_ _) _
 have d0 := y5_ w (.cells #[.slice A0 R.N.length c0, .slice A1 R.L.length c1, .slice A2 R.Cov.length c2, .slice A3 R.Dead.length c3, .slice A4 R.Above.length c4, .slice A5 R.Firsts.length c5] TR)
 rw [← hW0] at d0
 have hs0 : W0.heap.size = w.heap.size + 1 := by rw [hW0]; simp
 obtain ⟨W, hW⟩ : ∃ W : World, W = W0.alloc (.cells #[.int .i64 8, .int .i64 x1, .int .i64 x2, .string x3, .string x4, .int .i64 x5, .int .i64 x6, .int .i64 x7] TC) := ⟨_, rfl⟩
 have hB1 : Below W0.heap.size W0 W := by rw [hW]; exact (y6_ _ W0).alloc (y2_ _) _
 have b0 := y5_ W0 (.cells #[.int .i64 8, .int .i64 x1, .int .i64 x2, .string x3, .string x4, .int .i64 x5, .int .i64 x6, .int .i64 x7] TC)
 rw [← hW, hs0] at b0
 have d1 := (hB1.block w.heap.size (by omega)).trans d0
 have HB := z1_.mk (z7_ hB0 hB1)
 obtain ⟨q0, q1, q2, q3, q4, q5, q6, q7⟩ := za_ b0
 obtain ⟨r0, r1, r2, r3, r4, r5⟩ := z8_ d1
 have HD := z1_.mk d1
 have HC := z1_.mk b0
 have HS0 := z1_.mk hs0
 unfold encC
 clear hB0 d0 hB1 b0 d1 h0 h1 h2 h3 h4 h5 hs0
 go_enter Try.func31, Try.ntmps31
 go_wp2_with fail
 rw [← hW0, ← hW]
 clear hW hW0
 refine (HH.out W HB.out).mono ?_
 rintro e w1 ⟨rfl, hb1⟩
 have hlt := zj_ HC.out
 have e1 := (hb1.block _ (by omega)).trans HD.out
 have e2 := (hb1.block _ hlt).trans HC.out
 have HB' := z1_.mk (z7_ HB.out hb1)
 clear q0 q1 q2 q3 q4 q5 q6 q7 r0 r1 r2 r3 r4 r5 hb1 hlt HB HD HC
 have HB := HB'
 have HD := z1_.mk e1
 have HC := z1_.mk e2
 obtain ⟨q0, q1, q2, q3, q4, q5, q6, q7⟩ := za_ e2
 obtain ⟨r0, r1, r2, r3, r4, r5⟩ := z8_ e1
 clear e1 e2 HB'
 go_wp2
 go_ret
 exact ⟨rfl, HB.out⟩
set_option maxHeartbeats 8000000 in
set_option maxRecDepth 100000 in
theorem wrong_ok4 (R : Ref) (c : Chg) (w : World) (vs : Array Value) (h : RefAt R w vs) (hk : c.f0 = 4) (hh : R.has c.f2 = true) :
  Calls Try.prog 31 #[.agg vs, .agg (encC c).toArray] w fun e w' => e = .returned (.int .i64 0) ∧ Below w.heap.size w w' := by
 obtain ⟨x0, x1, x2, x3, x4, x5, x6, x7⟩ := c
 simp only at *
 subst hk
 have cH := fun W (hB : Below w.heap.size w W) => zh_ R x2 W vs (h.below hB)
 rw [hh] at cH
 have HX2 := z1_.mk hh
 clear hh
 have HH := z1_.mk cH
 clear cH
 obtain ⟨A0, c0, A1, c1, A2, c2, A3, c3, A4, c4, A5, c5, rfl, h0, h1, h2, h3, h4, h5⟩ := h
 have H0 := z1_.mk h0
 have H1 := z1_.mk h1
 have H2 := z1_.mk h2
 obtain ⟨W0, hW0⟩ : ∃ W0 : World, W0 = w.alloc (.cells #[.slice A0 R.N.length c0, .slice A1 R.L.length c1, .slice A2 R.Cov.length c2, .slice A3 R.Dead.length c3, .slice A4 R.Above.length c4, .slice A5 R.Firsts.length c5] TR) := ⟨_, rfl⟩
 have hB0 : Below w.heap.size w W0 := by rw [hW0]; exact (y6_ _ w).alloc (y2_ _) _
 have d0 := y5_ w (.cells #[.slice A0 R.N.length c0, .slice A1 R.L.length c1, .slice A2 R.Cov.length c2, .slice A3 R.Dead.length c3, .slice A4 R.Above.length c4, .slice A5 R.Firsts.length c5] TR)
 rw [← hW0] at d0
 have hs0 : W0.heap.size = w.heap.size + 1 := by rw [hW0]; simp
 obtain ⟨W, hW⟩ : ∃ W : World, W = W0.alloc (.cells #[.int .i64 4, .int .i64 x1, .int .i64 x2, .string x3, .string x4, .int .i64 x5, .int .i64 x6, .int .i64 x7] TC) := ⟨_, rfl⟩
 have hB1 : Below W0.heap.size W0 W := by rw [hW]; exact (y6_ _ W0).alloc (y2_ _) _
 have b0 := y5_ W0 (.cells #[.int .i64 4, .int .i64 x1, .int .i64 x2, .string x3, .string x4, .int .i64 x5, .int .i64 x6, .int .i64 x7] TC)
 rw [← hW, hs0] at b0
 have d1 := (hB1.block w.heap.size (by omega)).trans d0
 have HB := z1_.mk (z7_ hB0 hB1)
 obtain ⟨q0, q1, q2, q3, q4, q5, q6, q7⟩ := za_ b0
 obtain ⟨r0, r1, r2, r3, r4, r5⟩ := z8_ d1
 have HD := z1_.mk d1
 have HC := z1_.mk b0
 have HS0 := z1_.mk hs0
 unfold encC
 clear hB0 d0 hB1 b0 d1 h0 h1 h2 h3 h4 h5 hs0
 go_enter Try.func31, Try.ntmps31
 go_wp2_with fail
 rw [← hW0, ← hW]
 clear hW hW0
 refine (HH.out W HB.out).mono ?_
 rintro e w1 ⟨rfl, hb1⟩
 have hlt := zj_ HC.out
 have e1 := (hb1.block _ (by omega)).trans HD.out
 have e2 := (hb1.block _ hlt).trans HC.out
 have HB' := z1_.mk (z7_ HB.out hb1)
 clear q0 q1 q2 q3 q4 q5 q6 q7 r0 r1 r2 r3 r4 r5 hb1 hlt HB HD HC
 have HB := HB'
 have HD := z1_.mk e1
 have HC := z1_.mk e2
 obtain ⟨q0, q1, q2, q3, q4, q5, q6, q7⟩ := za_ e2
 obtain ⟨r0, r1, r2, r3, r4, r5⟩ := z8_ e1
 clear e1 e2 HB'
 go_wp2
 simp only [List.append]
 go_big_quiet (fail)
 go_wp2
 go_ret
 exact ⟨rfl, z7_ HB.out (by repeat (first | exact y6_ _ _ | apply z3_ | apply z6_))⟩
set_option maxHeartbeats 8000000 in
set_option maxRecDepth 100000 in
theorem wrong_ok5 (R : Ref) (c : Chg) (w : World) (vs : Array Value) (h : RefAt R w vs) (hk : c.f0 = 5) (hh : R.has c.f2 = true) :
  Calls Try.prog 31 #[.agg vs, .agg (encC c).toArray] w fun e w' => e = .returned (.int .i64 0) ∧ Below w.heap.size w w' := by
 obtain ⟨x0, x1, x2, x3, x4, x5, x6, x7⟩ := c
 simp only at *
 subst hk
 have cH := fun W (hB : Below w.heap.size w W) => zh_ R x2 W vs (h.below hB)
 rw [hh] at cH
 have HX2 := z1_.mk hh
 clear hh
 have HH := z1_.mk cH
 clear cH
 obtain ⟨A0, c0, A1, c1, A2, c2, A3, c3, A4, c4, A5, c5, rfl, h0, h1, h2, h3, h4, h5⟩ := h
 have H0 := z1_.mk h0
 have H1 := z1_.mk h1
 have H2 := z1_.mk h2
 obtain ⟨W0, hW0⟩ : ∃ W0 : World, W0 = w.alloc (.cells #[.slice A0 R.N.length c0, .slice A1 R.L.length c1, .slice A2 R.Cov.length c2, .slice A3 R.Dead.length c3, .slice A4 R.Above.length c4, .slice A5 R.Firsts.length c5] TR) := ⟨_, rfl⟩
 have hB0 : Below w.heap.size w W0 := by rw [hW0]; exact (y6_ _ w).alloc (y2_ _) _
 have d0 := y5_ w (.cells #[.slice A0 R.N.length c0, .slice A1 R.L.length c1, .slice A2 R.Cov.length c2, .slice A3 R.Dead.length c3, .slice A4 R.Above.length c4, .slice A5 R.Firsts.length c5] TR)
 rw [← hW0] at d0
 have hs0 : W0.heap.size = w.heap.size + 1 := by rw [hW0]; simp
 obtain ⟨W, hW⟩ : ∃ W : World, W = W0.alloc (.cells #[.int .i64 5, .int .i64 x1, .int .i64 x2, .string x3, .string x4, .int .i64 x5, .int .i64 x6, .int .i64 x7] TC) := ⟨_, rfl⟩
 have hB1 : Below W0.heap.size W0 W := by rw [hW]; exact (y6_ _ W0).alloc (y2_ _) _
 have b0 := y5_ W0 (.cells #[.int .i64 5, .int .i64 x1, .int .i64 x2, .string x3, .string x4, .int .i64 x5, .int .i64 x6, .int .i64 x7] TC)
 rw [← hW, hs0] at b0
 have d1 := (hB1.block w.heap.size (by omega)).trans d0
 have HB := z1_.mk (z7_ hB0 hB1)
 obtain ⟨q0, q1, q2, q3, q4, q5, q6, q7⟩ := za_ b0
 obtain ⟨r0, r1, r2, r3, r4, r5⟩ := z8_ d1
 have HD := z1_.mk d1
 have HC := z1_.mk b0
 have HS0 := z1_.mk hs0
 unfold encC
 clear hB0 d0 hB1 b0 d1 h0 h1 h2 h3 h4 h5 hs0
 go_enter Try.func31, Try.ntmps31
 go_wp2_with fail
 rw [← hW0, ← hW]
 clear hW hW0
 refine (HH.out W HB.out).mono ?_
 rintro e w1 ⟨rfl, hb1⟩
 have hlt := zj_ HC.out
 have e1 := (hb1.block _ (by omega)).trans HD.out
 have e2 := (hb1.block _ hlt).trans HC.out
 have HB' := z1_.mk (z7_ HB.out hb1)
 clear q0 q1 q2 q3 q4 q5 q6 q7 r0 r1 r2 r3 r4 r5 hb1 hlt HB HD HC
 have HB := HB'
 have HD := z1_.mk e1
 have HC := z1_.mk e2
 obtain ⟨q0, q1, q2, q3, q4, q5, q6, q7⟩ := za_ e2
 obtain ⟨r0, r1, r2, r3, r4, r5⟩ := z8_ e1
 clear e1 e2 HB'
 go_wp2
 simp only [List.append]
 go_big_quiet (fail)
 go_wp2
 go_ret
 exact ⟨rfl, z7_ HB.out (by repeat (first | exact y6_ _ _ | apply z3_ | apply z6_))⟩
set_option maxHeartbeats 8000000 in
set_option maxRecDepth 100000 in
theorem wrong_ok8 (R : Ref) (c : Chg) (w : World) (vs : Array Value) (h : RefAt R w vs) (hk : c.f0 = 8) (hh : R.has c.f2 = true) :
  Calls Try.prog 31 #[.agg vs, .agg (encC c).toArray] w fun e w' => e = .returned (.int .i64 0) ∧ Below w.heap.size w w' := by
 obtain ⟨x0, x1, x2, x3, x4, x5, x6, x7⟩ := c
 simp only at *
 subst hk
 have cH := fun W (hB : Below w.heap.size w W) => zh_ R x2 W vs (h.below hB)
 rw [hh] at cH
 have HX2 := z1_.mk hh
 clear hh
 have HH := z1_.mk cH
 clear cH
 obtain ⟨A0, c0, A1, c1, A2, c2, A3, c3, A4, c4, A5, c5, rfl, h0, h1, h2, h3, h4, h5⟩ := h
 have H0 := z1_.mk h0
 have H1 := z1_.mk h1
 have H2 := z1_.mk h2
 obtain ⟨W0, hW0⟩ : ∃ W0 : World, W0 = w.alloc (.cells #[.slice A0 R.N.length c0, .slice A1 R.L.length c1, .slice A2 R.Cov.length c2, .slice A3 R.Dead.length c3, .slice A4 R.Above.length c4, .slice A5 R.Firsts.length c5] TR) := ⟨_, rfl⟩
 have hB0 : Below w.heap.size w W0 := by rw [hW0]; exact (y6_ _ w).alloc (y2_ _) _
 have d0 := y5_ w (.cells #[.slice A0 R.N.length c0, .slice A1 R.L.length c1, .slice A2 R.Cov.length c2, .slice A3 R.Dead.length c3, .slice A4 R.Above.length c4, .slice A5 R.Firsts.length c5] TR)
 rw [← hW0] at d0
 have hs0 : W0.heap.size = w.heap.size + 1 := by rw [hW0]; simp
 obtain ⟨W, hW⟩ : ∃ W : World, W = W0.alloc (.cells #[.int .i64 8, .int .i64 x1, .int .i64 x2, .string x3, .string x4, .int .i64 x5, .int .i64 x6, .int .i64 x7] TC) := ⟨_, rfl⟩
 have hB1 : Below W0.heap.size W0 W := by rw [hW]; exact (y6_ _ W0).alloc (y2_ _) _
 have b0 := y5_ W0 (.cells #[.int .i64 8, .int .i64 x1, .int .i64 x2, .string x3, .string x4, .int .i64 x5, .int .i64 x6, .int .i64 x7] TC)
 rw [← hW, hs0] at b0
 have d1 := (hB1.block w.heap.size (by omega)).trans d0
 have HB := z1_.mk (z7_ hB0 hB1)
 obtain ⟨q0, q1, q2, q3, q4, q5, q6, q7⟩ := za_ b0
 obtain ⟨r0, r1, r2, r3, r4, r5⟩ := z8_ d1
 have HD := z1_.mk d1
 have HC := z1_.mk b0
 have HS0 := z1_.mk hs0
 unfold encC
 clear hB0 d0 hB1 b0 d1 h0 h1 h2 h3 h4 h5 hs0
 go_enter Try.func31, Try.ntmps31
 go_wp2_with fail
 rw [← hW0, ← hW]
 clear hW hW0
 refine (HH.out W HB.out).mono ?_
 rintro e w1 ⟨rfl, hb1⟩
 have hlt := zj_ HC.out
 have e1 := (hb1.block _ (by omega)).trans HD.out
 have e2 := (hb1.block _ hlt).trans HC.out
 have HB' := z1_.mk (z7_ HB.out hb1)
 clear q0 q1 q2 q3 q4 q5 q6 q7 r0 r1 r2 r3 r4 r5 hb1 hlt HB HD HC
 have HB := HB'
 have HD := z1_.mk e1
 have HC := z1_.mk e2
 obtain ⟨q0, q1, q2, q3, q4, q5, q6, q7⟩ := za_ e2
 obtain ⟨r0, r1, r2, r3, r4, r5⟩ := z8_ e1
 clear e1 e2 HB'
 go_wp2
 simp only [List.append]
 go_big_quiet (fail)
 go_wp2
 go_ret
 exact ⟨rfl, z7_ HB.out (by repeat (first | exact y6_ _ _ | apply z3_ | apply z6_))⟩
set_option maxHeartbeats 8000000 in
set_option maxRecDepth 100000 in
theorem wrong_t6a (R : Ref) (c : Chg) (w : World) (vs : Array Value) (h : RefAt R w vs) (hk : c.f0 = 6) (hh : R.has c.f2 = true) (h5 : c.f5 < 0) :
  Calls Try.prog 31 #[.agg vs, .agg (encC c).toArray] w fun e w' => e = .returned (.int .i64 1) ∧ Below w.heap.size w w' := by
 obtain ⟨x0, x1, x2, x3, x4, x5, x6, x7⟩ := c
 simp only at *
 subst hk
 have cH := fun W (hB : Below w.heap.size w W) => zh_ R x2 W vs (h.below hB)
 rw [hh] at cH
 have HX2 := z1_.mk hh
 clear hh
 have HH := z1_.mk cH
 clear cH
 have d5 : decide (x5 < 0) = true := y4_ h5
 clear h5
 obtain ⟨A0, c0, A1, c1, A2, c2, A3, c3, A4, c4, A5, c5, rfl, h0, h1, h2, h3, h4, h5⟩ := h
 have H0 := z1_.mk h0
 have H1 := z1_.mk h1
 have H2 := z1_.mk h2
 obtain ⟨W0, hW0⟩ : ∃ W0 : World, W0 = w.alloc (.cells #[.slice A0 R.N.length c0, .slice A1 R.L.length c1, .slice A2 R.Cov.length c2, .slice A3 R.Dead.length c3, .slice A4 R.Above.length c4, .slice A5 R.Firsts.length c5] TR) := ⟨_, rfl⟩
 have hB0 : Below w.heap.size w W0 := by rw [hW0]; exact (y6_ _ w).alloc (y2_ _) _
 have d0 := y5_ w (.cells #[.slice A0 R.N.length c0, .slice A1 R.L.length c1, .slice A2 R.Cov.length c2, .slice A3 R.Dead.length c3, .slice A4 R.Above.length c4, .slice A5 R.Firsts.length c5] TR)
 rw [← hW0] at d0
 have hs0 : W0.heap.size = w.heap.size + 1 := by rw [hW0]; simp
 obtain ⟨W, hW⟩ : ∃ W : World, W = W0.alloc (.cells #[.int .i64 6, .int .i64 x1, .int .i64 x2, .string x3, .string x4, .int .i64 x5, .int .i64 x6, .int .i64 x7] TC) := ⟨_, rfl⟩
 have hB1 : Below W0.heap.size W0 W := by rw [hW]; exact (y6_ _ W0).alloc (y2_ _) _
 have b0 := y5_ W0 (.cells #[.int .i64 6, .int .i64 x1, .int .i64 x2, .string x3, .string x4, .int .i64 x5, .int .i64 x6, .int .i64 x7] TC)
 rw [← hW, hs0] at b0
 have d1 := (hB1.block w.heap.size (by omega)).trans d0
 have HB := z1_.mk (z7_ hB0 hB1)
 obtain ⟨q0, q1, q2, q3, q4, q5, q6, q7⟩ := za_ b0
 obtain ⟨r0, r1, r2, r3, r4, r5⟩ := z8_ d1
 have HD := z1_.mk d1
 have HC := z1_.mk b0
 have HS0 := z1_.mk hs0
 unfold encC
 clear hB0 d0 hB1 b0 d1 h0 h1 h2 h3 h4 h5 hs0
 go_enter Try.func31, Try.ntmps31
 go_wp2_with fail
 rw [← hW0, ← hW]
 clear hW hW0
 refine (HH.out W HB.out).mono ?_
 rintro e w1 ⟨rfl, hb1⟩
 have hlt := zj_ HC.out
 have e1 := (hb1.block _ (by omega)).trans HD.out
 have e2 := (hb1.block _ hlt).trans HC.out
 have HB' := z1_.mk (z7_ HB.out hb1)
 clear q0 q1 q2 q3 q4 q5 q6 q7 r0 r1 r2 r3 r4 r5 hb1 hlt HB HD HC
 have HB := HB'
 have HD := z1_.mk e1
 have HC := z1_.mk e2
 obtain ⟨q0, q1, q2, q3, q4, q5, q6, q7⟩ := za_ e2
 obtain ⟨r0, r1, r2, r3, r4, r5⟩ := z8_ e1
 clear e1 e2 HB'
 go_wp2
 simp only [List.append]
 go_big_quiet (fail)
 go_wp2
 go_ret
 exact ⟨rfl, z7_ HB.out (by repeat (first | exact y6_ _ _ | apply z3_ | apply z6_))⟩
set_option maxHeartbeats 8000000 in
set_option maxRecDepth 100000 in
theorem wrong_t6b (R : Ref) (c : Chg) (w : World) (vs : Array Value) (h : RefAt R w vs) (hk : c.f0 = 6) (hh : R.has c.f2 = true) (h5 : 2 < c.f5) :
  Calls Try.prog 31 #[.agg vs, .agg (encC c).toArray] w fun e w' => e = .returned (.int .i64 1) ∧ Below w.heap.size w w' := by
 obtain ⟨x0, x1, x2, x3, x4, x5, x6, x7⟩ := c
 simp only at *
 subst hk
 have cH := fun W (hB : Below w.heap.size w W) => zh_ R x2 W vs (h.below hB)
 rw [hh] at cH
 have HX2 := z1_.mk hh
 clear hh
 have HH := z1_.mk cH
 clear cH
 have d5 : decide (x5 < 0) = false := y3_ (by omega)
 have d6 : decide (2 < x5) = true := y4_ h5
 clear h5
 obtain ⟨A0, c0, A1, c1, A2, c2, A3, c3, A4, c4, A5, c5, rfl, h0, h1, h2, h3, h4, h5⟩ := h
 have H0 := z1_.mk h0
 have H1 := z1_.mk h1
 have H2 := z1_.mk h2
 obtain ⟨W0, hW0⟩ : ∃ W0 : World, W0 = w.alloc (.cells #[.slice A0 R.N.length c0, .slice A1 R.L.length c1, .slice A2 R.Cov.length c2, .slice A3 R.Dead.length c3, .slice A4 R.Above.length c4, .slice A5 R.Firsts.length c5] TR) := ⟨_, rfl⟩
 have hB0 : Below w.heap.size w W0 := by rw [hW0]; exact (y6_ _ w).alloc (y2_ _) _
 have d0 := y5_ w (.cells #[.slice A0 R.N.length c0, .slice A1 R.L.length c1, .slice A2 R.Cov.length c2, .slice A3 R.Dead.length c3, .slice A4 R.Above.length c4, .slice A5 R.Firsts.length c5] TR)
 rw [← hW0] at d0
 have hs0 : W0.heap.size = w.heap.size + 1 := by rw [hW0]; simp
 obtain ⟨W, hW⟩ : ∃ W : World, W = W0.alloc (.cells #[.int .i64 6, .int .i64 x1, .int .i64 x2, .string x3, .string x4, .int .i64 x5, .int .i64 x6, .int .i64 x7] TC) := ⟨_, rfl⟩
 have hB1 : Below W0.heap.size W0 W := by rw [hW]; exact (y6_ _ W0).alloc (y2_ _) _
 have b0 := y5_ W0 (.cells #[.int .i64 6, .int .i64 x1, .int .i64 x2, .string x3, .string x4, .int .i64 x5, .int .i64 x6, .int .i64 x7] TC)
 rw [← hW, hs0] at b0
 have d1 := (hB1.block w.heap.size (by omega)).trans d0
 have HB := z1_.mk (z7_ hB0 hB1)
 obtain ⟨q0, q1, q2, q3, q4, q5, q6, q7⟩ := za_ b0
 obtain ⟨r0, r1, r2, r3, r4, r5⟩ := z8_ d1
 have HD := z1_.mk d1
 have HC := z1_.mk b0
 have HS0 := z1_.mk hs0
 unfold encC
 clear hB0 d0 hB1 b0 d1 h0 h1 h2 h3 h4 h5 hs0
 go_enter Try.func31, Try.ntmps31
 go_wp2_with fail
 rw [← hW0, ← hW]
 clear hW hW0
 refine (HH.out W HB.out).mono ?_
 rintro e w1 ⟨rfl, hb1⟩
 have hlt := zj_ HC.out
 have e1 := (hb1.block _ (by omega)).trans HD.out
 have e2 := (hb1.block _ hlt).trans HC.out
 have HB' := z1_.mk (z7_ HB.out hb1)
 clear q0 q1 q2 q3 q4 q5 q6 q7 r0 r1 r2 r3 r4 r5 hb1 hlt HB HD HC
 have HB := HB'
 have HD := z1_.mk e1
 have HC := z1_.mk e2
 obtain ⟨q0, q1, q2, q3, q4, q5, q6, q7⟩ := za_ e2
 obtain ⟨r0, r1, r2, r3, r4, r5⟩ := z8_ e1
 clear e1 e2 HB'
 go_wp2
 simp only [List.append]
 go_big_quiet (fail)
 go_wp2
 go_ret
 exact ⟨rfl, z7_ HB.out (by repeat (first | exact y6_ _ _ | apply z3_ | apply z6_))⟩
set_option maxHeartbeats 8000000 in
set_option maxRecDepth 100000 in
theorem wrong_t6 (R : Ref) (c : Chg) (w : World) (vs : Array Value) (h : RefAt R w vs) (hk : c.f0 = 6) (hh : R.has c.f2 = true) (h5 : 0 ≤ c.f5 ∧ c.f5 ≤ 2) :
  Calls Try.prog 31 #[.agg vs, .agg (encC c).toArray] w fun e w' => e = .returned (.int .i64 0) ∧ Below w.heap.size w w' := by
 obtain ⟨x0, x1, x2, x3, x4, x5, x6, x7⟩ := c
 simp only at *
 subst hk
 have cH := fun W (hB : Below w.heap.size w W) => zh_ R x2 W vs (h.below hB)
 rw [hh] at cH
 have HX2 := z1_.mk hh
 clear hh
 have HH := z1_.mk cH
 clear cH
 have d5 : decide (x5 < 0) = false := y3_ (by omega)
 have d6 : decide (2 < x5) = false := y3_ (by omega)
 clear h5
 obtain ⟨A0, c0, A1, c1, A2, c2, A3, c3, A4, c4, A5, c5, rfl, h0, h1, h2, h3, h4, h5⟩ := h
 have H0 := z1_.mk h0
 have H1 := z1_.mk h1
 have H2 := z1_.mk h2
 obtain ⟨W0, hW0⟩ : ∃ W0 : World, W0 = w.alloc (.cells #[.slice A0 R.N.length c0, .slice A1 R.L.length c1, .slice A2 R.Cov.length c2, .slice A3 R.Dead.length c3, .slice A4 R.Above.length c4, .slice A5 R.Firsts.length c5] TR) := ⟨_, rfl⟩
 have hB0 : Below w.heap.size w W0 := by rw [hW0]; exact (y6_ _ w).alloc (y2_ _) _
 have d0 := y5_ w (.cells #[.slice A0 R.N.length c0, .slice A1 R.L.length c1, .slice A2 R.Cov.length c2, .slice A3 R.Dead.length c3, .slice A4 R.Above.length c4, .slice A5 R.Firsts.length c5] TR)
 rw [← hW0] at d0
 have hs0 : W0.heap.size = w.heap.size + 1 := by rw [hW0]; simp
 obtain ⟨W, hW⟩ : ∃ W : World, W = W0.alloc (.cells #[.int .i64 6, .int .i64 x1, .int .i64 x2, .string x3, .string x4, .int .i64 x5, .int .i64 x6, .int .i64 x7] TC) := ⟨_, rfl⟩
 have hB1 : Below W0.heap.size W0 W := by rw [hW]; exact (y6_ _ W0).alloc (y2_ _) _
 have b0 := y5_ W0 (.cells #[.int .i64 6, .int .i64 x1, .int .i64 x2, .string x3, .string x4, .int .i64 x5, .int .i64 x6, .int .i64 x7] TC)
 rw [← hW, hs0] at b0
 have d1 := (hB1.block w.heap.size (by omega)).trans d0
 have HB := z1_.mk (z7_ hB0 hB1)
 obtain ⟨q0, q1, q2, q3, q4, q5, q6, q7⟩ := za_ b0
 obtain ⟨r0, r1, r2, r3, r4, r5⟩ := z8_ d1
 have HD := z1_.mk d1
 have HC := z1_.mk b0
 have HS0 := z1_.mk hs0
 unfold encC
 clear hB0 d0 hB1 b0 d1 h0 h1 h2 h3 h4 h5 hs0
 go_enter Try.func31, Try.ntmps31
 go_wp2_with fail
 rw [← hW0, ← hW]
 clear hW hW0
 refine (HH.out W HB.out).mono ?_
 rintro e w1 ⟨rfl, hb1⟩
 have hlt := zj_ HC.out
 have e1 := (hb1.block _ (by omega)).trans HD.out
 have e2 := (hb1.block _ hlt).trans HC.out
 have HB' := z1_.mk (z7_ HB.out hb1)
 clear q0 q1 q2 q3 q4 q5 q6 q7 r0 r1 r2 r3 r4 r5 hb1 hlt HB HD HC
 have HB := HB'
 have HD := z1_.mk e1
 have HC := z1_.mk e2
 obtain ⟨q0, q1, q2, q3, q4, q5, q6, q7⟩ := za_ e2
 obtain ⟨r0, r1, r2, r3, r4, r5⟩ := z8_ e1
 clear e1 e2 HB'
 go_wp2
 simp only [List.append]
 go_big_quiet (fail)
 go_wp2
 go_ret
 exact ⟨rfl, z7_ HB.out (by repeat (first | exact y6_ _ _ | apply z3_ | apply z6_))⟩
end Go.Proofs.Ytlfldoghomnbkaa.QVfs
