import Derived.Test.YtlfldoghomnbkaaKXVs0
-- Texts of this seat, what the claim does not reach struck out by a program.
namespace Go.Proofs.Ytlfldoghomnbkaa.QVfs
open Go.RowKit Go.Proofs.YtlfldoghomnbkaaW.PrintWords Go.Proofs.YtlfldoghomnbkaaW.PrintLast Go.Proofs.YtlfldoghomnbkaaW.PrintMore
set_option linter.unusedVariables false
set_option linter.unusedSimpArgs false
set_option maxHeartbeats 8000000 in
set_option maxRecDepth 100000 in
theorem do_wrong (R : Ref) (c : Chg) (w : World) (vs : Array Value) (m : Nat) (ok : Nat → Prop) (h : RefV R w ok vs) (hO : R.Ok m) (hm : m ≤ 1000000) (s3 : c.f3.size ≤ 1000000) (s4 : c.f4.size ≤ 1000000) (hE : R.wrongE c ≠ 0) :
  Calls Try.prog 19 #[.agg vs, .agg (encC c).toArray] w fun e w' => ∃ vs', e = .returned (.tuple #[.agg vs', .int .i64 0, .int .i64 (R.wrongE c)]) ∧ RefV (R) w' (fun k => ok k ∨ w.heap.size ≤ k) vs' ∧ Below w.heap.size w w' := by
 have hW := fun W (hB : Below w.heap.size w W) => zu_ R c W vs m (h.below hB).at hO hm s3 s4
 obtain ⟨x0, x1, x2, x3, x4, x5, x6, x7⟩ := c
 simp only at *
 obtain ⟨ex, hex⟩ : ∃ ex, ex = R.wrongE ⟨x0, x1, x2, x3, x4, x5, x6, x7⟩ := ⟨_, rfl⟩
 rw [← hex] at hW hE ⊢
 have dE : (ex != 0) = true := by rw [bne_iff_ne]; exact hE
 clear hex hE
 have hV := h.bound
 obtain ⟨A0, c0, A1, c1, A2, c2, A3, c3, A4, c4, A5, c5, rfl⟩ := hV.form
 clear h
 have HW := z1_.mk hW
 have HV0 := z1_.mk hV
 have HO := z1_.mk hO
 have HM := z1_.mk hm
 clear hW hV hO hm
 obtain ⟨b, hb⟩ : ∃ b, b = w.heap.size := ⟨_, rfl⟩
 obtain ⟨W0, hW0⟩ : ∃ W0 : World, W0 = ((w.alloc (.cells #[.slice A0 R.N.length c0, .slice A1 R.L.length c1, .slice A2 R.Cov.length c2, .slice A3 R.Dead.length c3, .slice A4 R.Above.length c4, .slice A5 R.Firsts.length c5] TR)).alloc (.cells #[.int .i64 x0, .int .i64 x1, .int .i64 x2, .string x3, .string x4, .int .i64 x5, .int .i64 x6, .int .i64 x7] TC)).alloc (.cells #[.slice none 0 0, .slice none 0 0, .slice none 0 0, .slice none 0 0, .slice none 0 0, .slice none 0 0] TR) := ⟨_, rfl⟩
 have hB0 : Below b w W0 := by rw [hW0, hb]; exact (((y6_ _ w).alloc (y2_ _) _).alloc (by simp) _).alloc (by simp; omega) _
 have hs0 : W0.heap.size = b + 3 := by rw [hW0, hb]; simp
 have hd : DoAt b #[.slice A0 R.N.length c0, .slice A1 R.L.length c1, .slice A2 R.Cov.length c2, .slice A3 R.Dead.length c3, .slice A4 R.Above.length c4, .slice A5 R.Firsts.length c5] #[.int .i64 x0, .int .i64 x1, .int .i64 x2, .string x3, .string x4, .int .i64 x5, .int .i64 x6, .int .i64 x7] W0 := by
  rw [hW0, hb]
  have e0 := y5_ w (.cells #[.slice A0 R.N.length c0, .slice A1 R.L.length c1, .slice A2 R.Cov.length c2, .slice A3 R.Dead.length c3, .slice A4 R.Above.length c4, .slice A5 R.Firsts.length c5] TR)
  have e1 := y5_ (w.alloc (.cells #[.slice A0 R.N.length c0, .slice A1 R.L.length c1, .slice A2 R.Cov.length c2, .slice A3 R.Dead.length c3, .slice A4 R.Above.length c4, .slice A5 R.Firsts.length c5] TR)) (.cells #[.int .i64 x0, .int .i64 x1, .int .i64 x2, .string x3, .string x4, .int .i64 x5, .int .i64 x6, .int .i64 x7] TC)
  have e2 := y5_ ((w.alloc (.cells #[.slice A0 R.N.length c0, .slice A1 R.L.length c1, .slice A2 R.Cov.length c2, .slice A3 R.Dead.length c3, .slice A4 R.Above.length c4, .slice A5 R.Firsts.length c5] TR)).alloc (.cells #[.int .i64 x0, .int .i64 x1, .int .i64 x2, .string x3, .string x4, .int .i64 x5, .int .i64 x6, .int .i64 x7] TC)) (.cells #[.slice none 0 0, .slice none 0 0, .slice none 0 0, .slice none 0 0, .slice none 0 0, .slice none 0 0] TR)
  simp only [World.size_alloc] at e1 e2
  exact ⟨(Below.heap_alloc _ _ _ (by simp; omega)).trans ((Below.heap_alloc _ _ _ (by simp)).trans e0), (Below.heap_alloc _ _ _ (by simp)).trans e1, e2⟩
 have HV := z1_.mk ((HV0.out.below (hb ▸ hB0)).mono (ok' := ok3 ok b) (fun k hk => Or.inl (hb ▸ hk)))
 have HB := z1_.mk hB0
 have HD := z1_.mk hd
 have HS := z1_.mk (show b + 3 ≤ W0.heap.size by omega)
 have Hb := z1_.mk hb
 unfold encC
 obtain ⟨f0, f1, f2, f3, f4, f5⟩ := z8_ HD.out.f
 obtain ⟨q0, q1, q2, q3, q4, q5, q6, q7⟩ := za_ HD.out.c
 obtain ⟨r0, r1, r2, r3, r4, r5⟩ := z8_ HD.out.r
 have zf0 := z0_ HD.out.f 0
 have zf1 := z0_ HD.out.f 1
 have zf2 := z0_ HD.out.f 2
 have zf3 := z0_ HD.out.f 3
 have zf4 := z0_ HD.out.f 4
 have zf5 := z0_ HD.out.f 5
 have zr0 := z0_ HD.out.r 0
 have zr1 := z0_ HD.out.r 1
 have zr2 := z0_ HD.out.r 2
 have zr3 := z0_ HD.out.r 3
 have zr4 := z0_ HD.out.r 4
 have zr5 := z0_ HD.out.r 5
 have hl0 : b < W0.heap.size := by have := HS.out; omega
 have hl1 : b + 1 < W0.heap.size := by have := HS.out; omega
 have hl2 : b + 1 + 1 < W0.heap.size := by have := HS.out; omega
 clear hB0 hd hs0
 go_enter Try.func19, Try.ntmps19
 go_wp2_with fail
 rw [← hW0, ← hb]
 clear hW0 hb
 refine (HW.out W0 (Hb.out ▸ HB.out)).mono ?_
 rintro e w1 ⟨rfl, hb1⟩
 have HB' : z1_ (Below b w w1) := ⟨HB.out.trans (hb1.mono (by have := HS.out; omega))⟩
 have HD' := z1_.mk (HD.out.below hb1)
 have HV' := z1_.mk (HV.out.below hb1)
 have HS' := z1_.mk (Nat.le_trans HS.out hb1.size)
 clear f0 f1 f2 f3 f4 f5 q0 q1 q2 q3 q4 q5 q6 q7 r0 r1 r2 r3 r4 r5 zf0 zr0 zf1 zr1 zf2 zr2 zf3 zr3 zf4 zr4 zf5 zr5 hl0 hl1 hl2
 clear HB HD HV HS hb1
 have HB := HB'
 have HD := HD'
 have HV := HV'
 have HS := HS'
 clear HB' HD' HV' HS'
 obtain ⟨f0, f1, f2, f3, f4, f5⟩ := z8_ HD.out.f
 obtain ⟨q0, q1, q2, q3, q4, q5, q6, q7⟩ := za_ HD.out.c
 obtain ⟨r0, r1, r2, r3, r4, r5⟩ := z8_ HD.out.r
 have zf0 := z0_ HD.out.f 0
 have zf1 := z0_ HD.out.f 1
 have zf2 := z0_ HD.out.f 2
 have zf3 := z0_ HD.out.f 3
 have zf4 := z0_ HD.out.f 4
 have zf5 := z0_ HD.out.f 5
 have zr0 := z0_ HD.out.r 0
 have zr1 := z0_ HD.out.r 1
 have zr2 := z0_ HD.out.r 2
 have zr3 := z0_ HD.out.r 3
 have zr4 := z0_ HD.out.r 4
 have zr5 := z0_ HD.out.r 5
 have hl0 : b < w1.heap.size := by have := HS.out; omega
 have hl1 : b + 1 < w1.heap.size := by have := HS.out; omega
 have hl2 : b + 1 + 1 < w1.heap.size := by have := HS.out; omega
 go_wp2
 refine bodyPost_ret (v := .tuple #[.agg #[.slice A0 R.N.length c0, .slice A1 R.L.length c1, .slice A2 R.Cov.length c2, .slice A3 R.Dead.length c3, .slice A4 R.Above.length c4, .slice A5 R.Firsts.length c5], .int .i64 0, .int .i64 ex]) (by simp [results, Try.results19, go_sem, r0, r1, r2, r3, r4, r5]) rfl ⟨_, rfl, ?_, ?_⟩
 ·have hne : ∀ k, ok3 ok b k → k ≠ b + 1 + 1 := fun k hk => by rcases hk with ⟨_, hk⟩ | hk <;> omega
  rw [← Hb.out]
  exact ((((((HV.out.set _ 0 _ hne).set _ 1 _ hne).set _ 2 _ hne).set _ 3 _ hne).set _ 4 _ hne).set _ 5 _ hne).mono (fun k hk => by rcases hk with ⟨hk, _⟩ | hk; exact Or.inl hk; exact Or.inr (by omega))
 ·have hge : b ≤ b + 1 + 1 := by omega
  rw [← Hb.out]
  exact (((((HB.out.setCell hge _).setCell hge _).setCell hge _).setCell hge _).setCell hge _).setCell hge _
end Go.Proofs.Ytlfldoghomnbkaa.QVfs
