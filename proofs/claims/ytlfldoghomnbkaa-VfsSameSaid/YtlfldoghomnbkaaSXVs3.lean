import Derived.Test.YtlfldoghomnbkaaSS2
import Derived.StillTailTactics
-- Texts of this seat, what the claim does not reach struck out by a program.
namespace Go.Proofs.Ytlfldoghomnbkaa.QVfs
open Go.RowKit Go.Proofs.YtlfldoghomnbkaaW.PrintWords Go.Proofs.YtlfldoghomnbkaaW.PrintLast Go.Proofs.YtlfldoghomnbkaaW.PrintMore
set_option linter.unusedVariables false
set_option linter.unusedSimpArgs false
set_option maxHeartbeats 8000000 in
set_option maxRecDepth 100000 in
theorem rdo_owner (R : Ref) (c : Chg) (w : World) (vs : Array Value) (m : Nat) (ok : Nat → Prop) (h : RefV R w ok vs) (hO : R.Ok m) (hm : m ≤ 1000000) (s3 : c.f3.size ≤ 1000000) (s4 : c.f4.size ≤ 1000000) (hk : c.f0 = 5) (hE : R.wrongE c = 0) (hin : 0 ≤ c.f2 ∧ c.f2 < R.N.length) :
  Calls Try.prog 19 #[.agg vs, .agg (encC c).toArray] w fun e w' => ∃ vs', e = .returned (.tuple #[.agg vs', .int .i64 0, .int .i64 0]) ∧ RefV (⟨R.N.set c.f2.toNat ((⟨(R.n c.f2).f0, (R.n c.f2).f1, (R.n c.f2).f2, (R.n c.f2).f3, max c.f5 0, max c.f6 0, (R.n c.f2).f6, (R.n c.f2).f7, (R.n c.f2).f8, (R.n c.f2).f9, (R.n c.f2).f10⟩ : Node)), R.L, R.Cov, R.Dead, R.Above, R.Firsts⟩) w' (fun k => ok k ∨ w.heap.size ≤ k) vs' ∧ Below w.heap.size w w' := by
 have hW := fun W (hB : Below w.heap.size w W) => refWrong_calls R c W vs m (h.below hB).at hO hm s3 s4
 rw [hE] at hW
 obtain ⟨x0, x1, x2, x3, x4, x5, x6, x7⟩ := c
 simp only at *
 subst hk
 obtain ⟨t2, rfl⟩ : ∃ t : Nat, x2 = t := ⟨x2.toNat, by omega⟩
 have n1 : (0 : Int) ≤ (t2 : Int) := hin.1
 have n2 : (t2 : Int) < (R.N.length : Int) := hin.2
 have n3 : (t2 : Int) < (R.Dead.length : Int) := by rw [hO.Dead]; exact n2
 clear hin hE
 have hV := h.bound
 obtain ⟨A0, c0, A1, c1, A2, c2, A3, c3, A4, c4, A5, c5, rfl⟩ := hV.form
 clear h
 have HW := Aside0.mk hW
 have HV0 := Aside0.mk hV
 have HO := Aside0.mk hO
 have HM := Aside0.mk hm
 clear hW hV hO hm
 obtain ⟨b, hb⟩ : ∃ b, b = w.heap.size := ⟨_, rfl⟩
 obtain ⟨W0, hW0⟩ : ∃ W0 : World, W0 = ((w.alloc (.cells #[.slice A0 R.N.length c0, .slice A1 R.L.length c1, .slice A2 R.Cov.length c2, .slice A3 R.Dead.length c3, .slice A4 R.Above.length c4, .slice A5 R.Firsts.length c5] TR)).alloc (.cells #[.int .i64 5, .int .i64 x1, .int .i64 (t2 : Int), .string x3, .string x4, .int .i64 x5, .int .i64 x6, .int .i64 x7] TC)).alloc (.cells #[.slice none 0 0, .slice none 0 0, .slice none 0 0, .slice none 0 0, .slice none 0 0, .slice none 0 0] TR) := ⟨_, rfl⟩
 have hB0 : Below b w W0 := by rw [hW0, hb]; exact (((Below.refl _ w).alloc (Nat.le_refl _) _).alloc (by simp) _).alloc (by simp; omega) _
 have hs0 : W0.heap.size = b + 3 := by rw [hW0, hb]; simp
 have hd : DoAt b #[.slice A0 R.N.length c0, .slice A1 R.L.length c1, .slice A2 R.Cov.length c2, .slice A3 R.Dead.length c3, .slice A4 R.Above.length c4, .slice A5 R.Firsts.length c5] #[.int .i64 5, .int .i64 x1, .int .i64 (t2 : Int), .string x3, .string x4, .int .i64 x5, .int .i64 x6, .int .i64 x7] W0 := by
  rw [hW0, hb]
  have e0 := heap_alloc_new w (.cells #[.slice A0 R.N.length c0, .slice A1 R.L.length c1, .slice A2 R.Cov.length c2, .slice A3 R.Dead.length c3, .slice A4 R.Above.length c4, .slice A5 R.Firsts.length c5] TR)
  have e1 := heap_alloc_new (w.alloc (.cells #[.slice A0 R.N.length c0, .slice A1 R.L.length c1, .slice A2 R.Cov.length c2, .slice A3 R.Dead.length c3, .slice A4 R.Above.length c4, .slice A5 R.Firsts.length c5] TR)) (.cells #[.int .i64 5, .int .i64 x1, .int .i64 (t2 : Int), .string x3, .string x4, .int .i64 x5, .int .i64 x6, .int .i64 x7] TC)
  have e2 := heap_alloc_new ((w.alloc (.cells #[.slice A0 R.N.length c0, .slice A1 R.L.length c1, .slice A2 R.Cov.length c2, .slice A3 R.Dead.length c3, .slice A4 R.Above.length c4, .slice A5 R.Firsts.length c5] TR)).alloc (.cells #[.int .i64 5, .int .i64 x1, .int .i64 (t2 : Int), .string x3, .string x4, .int .i64 x5, .int .i64 x6, .int .i64 x7] TC)) (.cells #[.slice none 0 0, .slice none 0 0, .slice none 0 0, .slice none 0 0, .slice none 0 0, .slice none 0 0] TR)
  simp only [World.size_alloc] at e1 e2
  exact ⟨(Below.heap_alloc _ _ _ (by simp; omega)).trans ((Below.heap_alloc _ _ _ (by simp)).trans e0), (Below.heap_alloc _ _ _ (by simp)).trans e1, e2⟩
 have HV := Aside0.mk ((HV0.out.below (hb ▸ hB0)).mono (ok' := ok3 ok b) (fun k hk => Or.inl (hb ▸ hk)))
 have HB := Aside0.mk hB0
 have HD := Aside0.mk hd
 have HS := Aside0.mk (show b + 3 ≤ W0.heap.size by omega)
 have Hb := Aside0.mk hb
 unfold encC
 obtain ⟨f0, f1, f2, f3, f4, f5⟩ := boxR_cells HD.out.f
 obtain ⟨q0, q1, q2, q3, q4, q5, q6, q7⟩ := box_cells HD.out.c
 obtain ⟨r0, r1, r2, r3, r4, r5⟩ := boxR_cells HD.out.r
 have zf0 := blk_frozen HD.out.f 0
 have zf1 := blk_frozen HD.out.f 1
 have zf2 := blk_frozen HD.out.f 2
 have zf3 := blk_frozen HD.out.f 3
 have zf4 := blk_frozen HD.out.f 4
 have zf5 := blk_frozen HD.out.f 5
 have zr0 := blk_frozen HD.out.r 0
 have zr1 := blk_frozen HD.out.r 1
 have zr2 := blk_frozen HD.out.r 2
 have zr3 := blk_frozen HD.out.r 3
 have zr4 := blk_frozen HD.out.r 4
 have zr5 := blk_frozen HD.out.r 5
 have hl0 : b < W0.heap.size := by have := HS.out; omega
 have hl1 : b + 1 < W0.heap.size := by have := HS.out; omega
 have hl2 : b + 1 + 1 < W0.heap.size := by have := HS.out; omega
 clear hB0 hd hs0
 go_enter Try.func19, Try.ntmps19
 go_wp2_with fail
 rw [← hW0, ← hb]
 clear hW0 hb
 refine (HW.out W0 (Hb.out ▸ HB.out)).mono ?_
 rintro e w1 ⟨rfl, hb1⟩
 have HB' : Aside0 (Below b w w1) := ⟨HB.out.trans (hb1.mono (by have := HS.out; omega))⟩
 have HD' := Aside0.mk (HD.out.below hb1)
 have HV' := Aside0.mk (HV.out.below hb1)
 have HS' := Aside0.mk (Nat.le_trans HS.out hb1.size)
 clear f0 f1 f2 f3 f4 f5 q0 q1 q2 q3 q4 q5 q6 q7 r0 r1 r2 r3 r4 r5 zf0 zr0 zf1 zr1 zf2 zr2 zf3 zr3 zf4 zr4 zf5 zr5 hl0 hl1 hl2
 clear HB HD HV HS hb1
 have HB := HB'
 have HD := HD'
 have HV := HV'
 have HS := HS'
 clear HB' HD' HV' HS'
 obtain ⟨f0, f1, f2, f3, f4, f5⟩ := boxR_cells HD.out.f
 obtain ⟨q0, q1, q2, q3, q4, q5, q6, q7⟩ := box_cells HD.out.c
 obtain ⟨r0, r1, r2, r3, r4, r5⟩ := boxR_cells HD.out.r
 have zf0 := blk_frozen HD.out.f 0
 have zf1 := blk_frozen HD.out.f 1
 have zf2 := blk_frozen HD.out.f 2
 have zf3 := blk_frozen HD.out.f 3
 have zf4 := blk_frozen HD.out.f 4
 have zf5 := blk_frozen HD.out.f 5
 have zr0 := blk_frozen HD.out.r 0
 have zr1 := blk_frozen HD.out.r 1
 have zr2 := blk_frozen HD.out.r 2
 have zr3 := blk_frozen HD.out.r 3
 have zr4 := blk_frozen HD.out.r 4
 have zr5 := blk_frozen HD.out.r 5
 have hl0 : b < w1.heap.size := by have := HS.out; omega
 have hl1 : b + 1 < w1.heap.size := by have := HS.out; omega
 have hl2 : b + 1 + 1 < w1.heap.size := by have := HS.out; omega
 obtain ⟨S1, hS1⟩ : ∃ S, S = w1.heap.size := ⟨_, rfl⟩
 have HV1 := Aside0.mk HV.out.bound
 rw [← hS1] at HV1
 clear HV
 have HV := HV1
 clear HV1
 have HS1 := Aside0.mk hS1
 have HSB := Aside0.mk (show b + 3 ≤ S1 by rw [hS1]; exact HS.out)
 clear hS1
 have HCN := Aside0.mk (V_C HV.out.vs.1)
 have hlN : R.N.length * 112 ≤ 140737488355328 := by have := HO.out.N; omega
 have hlD : R.Dead.length * 1 ≤ 140737488355328 := by have := HO.out.N; have := HO.out.Dead; omega
 have HLN := Aside0.mk hlN
 have HLD := Aside0.mk hlD
 clear hlN hlD
 go_wp2_with (at_builtin; refine wp_copy kN KM_N rfl _ _ 43 36 (.agg #[.int .i64 0, .int .i64 0, .int .i64 0, .int .i64 0, .int .i64 0, .int .i64 0, .int .i64 0, .int .i64 0, .int .i64 0, .int .i64 0, .int .i64 0, .int .i64 0, .string ⟨#[]⟩]) 112 rfl Try.underlying43 info36 rfl (by decide) (by decide) w1.heap.size rfl A0 _ _ R.N rfl rfl HCN.out HLN.out ?_)
 intro v1 w2 hR hb2
 obtain ⟨g, cap, rfl, hgl, hgb, hgs⟩ := R_form hR (by omega)
 rw [← HS1.out] at hgb hgs
 have HR := Aside0.mk hR
 have HGL := Aside0.mk hgl
 have HGB := Aside0.mk hgb
 clear hR hgl hgb hgs HCN
 have HB' : Aside0 (Below b w w2) := ⟨HB.out.trans (hb2.mono (by have := HS.out; omega))⟩
 have HD' := Aside0.mk (HD.out.below hb2)
 have HV' := Aside0.mk (HV.out.below hb2)
 have HS' := Aside0.mk (Nat.le_trans HS.out hb2.size)
 clear f0 f1 f2 f3 f4 f5 q0 q1 q2 q3 q4 q5 q6 q7 r0 r1 r2 r3 r4 r5 zf0 zr0 zf1 zr1 zf2 zr2 zf3 zr3 zf4 zr4 zf5 zr5 hl0 hl1 hl2
 clear HB HD HV HS hb2
 have HB := HB'
 have HD := HD'
 have HV := HV'
 have HS := HS'
 clear HB' HD' HV' HS'
 obtain ⟨f0, f1, f2, f3, f4, f5⟩ := boxR_cells HD.out.f
 obtain ⟨q0, q1, q2, q3, q4, q5, q6, q7⟩ := box_cells HD.out.c
 obtain ⟨r0, r1, r2, r3, r4, r5⟩ := boxR_cells HD.out.r
 have zf0 := blk_frozen HD.out.f 0
 have zf1 := blk_frozen HD.out.f 1
 have zf2 := blk_frozen HD.out.f 2
 have zf3 := blk_frozen HD.out.f 3
 have zf4 := blk_frozen HD.out.f 4
 have zf5 := blk_frozen HD.out.f 5
 have zr0 := blk_frozen HD.out.r 0
 have zr1 := blk_frozen HD.out.r 1
 have zr2 := blk_frozen HD.out.r 2
 have zr3 := blk_frozen HD.out.r 3
 have zr4 := blk_frozen HD.out.r 4
 have zr5 := blk_frozen HD.out.r 5
 have hl0 : b < w2.heap.size := by have := HS.out; omega
 have hl1 : b + 1 < w2.heap.size := by have := HS.out; omega
 have hl2 : b + 1 + 1 < w2.heap.size := by have := HS.out; omega
 skip
 have hneb : ∀ k, ok3 ok b k ∧ k < S1 → k ≠ b := fun k hk => by rcases hk.1 with ⟨_, q⟩ | q <;> omega
 have HV2 := Aside0.mk (HV.out.set b 0 (.slice (some ⟨g, 0, none⟩) R.N.length cap) hneb)
 have HCD := Aside0.mk (V_C HV2.out.vs.2.2.2.1)
 clear hneb
 go_wp2_with (at_builtin; refine wp_copy Kd.bool KM_B rfl _ _ 46 4 (.bool false) 1 rfl Try.underlying46 info4 rfl (by decide) (by decide) w2.heap.size (by simp) A3 _ _ R.Dead rfl rfl HCD.out HLD.out ?_)
 intro v2 w3 hRD hb3
 obtain ⟨gd, capd, rfl, hgdl, hgdb, _⟩ := R_form hRD (by omega)
 have hsz : (w2.setCell ⟨b, 0, none⟩ (.slice (some ⟨g, 0, none⟩) R.N.length cap)).heap.size = w2.heap.size := by simp
 have hgb : g ≠ b := by have := HGB.out; have := HS1.out; have := HSB.out; omega
 have hgb1 : g ≠ b + 1 := by have := HGB.out; have := HSB.out; omega
 have hgb2 : g ≠ b + 1 + 1 := by have := HGB.out; have := HSB.out; omega
 have hgdg : gd ≠ g := by have := HGL.out; omega
 have hgdb' : gd ≠ b := by have := HS.out; omega
 have hgdb1 : gd ≠ b + 1 := by have := HS.out; omega
 have hgdb2 : gd ≠ b + 1 + 1 := by have := HS.out; omega
 have hgb3 := hgb.symm
 have hgb4 := hgb1.symm
 have hgb5 := hgb2.symm
 have hgdb3 := hgdb'.symm
 have hgdb4 := hgdb1.symm
 have hgdb5 := hgdb2.symm
 have hgdg' := hgdg.symm
 have hneb : ∀ k, ok3 ok b k ∧ k < S1 → k ≠ b := fun k hk => by rcases hk.1 with ⟨_, q⟩ | q <;> omega
 have HR2 := Aside0.mk (Kd.R_below (Kd.R_far (p := ⟨b, 0, none⟩) HR.out (fun k hk => by have h1 : w1.heap.size ≤ k := hk; have := HS1.out; have := HSB.out; show k ≠ b; omega) (.slice (some ⟨g, 0, none⟩) R.N.length cap)) (hsz ▸ hb3))
 have HRD := Aside0.mk hRD
 have HV3 := Aside0.mk (HV2.out.below (hsz ▸ hb3))
 have HB3 : Aside0 (Below b w w3) := ⟨(HB.out.setCell (Nat.le_refl _) _).trans (hb3.mono (by have := HS.out; omega))⟩
 have HD3 : Aside0 (DoAt b #[.slice (some ⟨g, 0, none⟩) R.N.length cap, .slice A1 R.L.length c1, .slice A2 R.Cov.length c2, .slice A3 R.Dead.length c3, .slice A4 R.Above.length c4, .slice A5 R.Firsts.length c5] #[.int .i64 5, .int .i64 x1, .int .i64 (t2 : Int), .string x3, .string x4, .int .i64 x5, .int .i64 x6, .int .i64 x7] w3) := ⟨(HD.out.set 0 (.slice (some ⟨g, 0, none⟩) R.N.length cap)).below (hsz ▸ hb3)⟩
 have HS3 : Aside0 (b + 3 ≤ w3.heap.size) := ⟨by have := HS.out; have := hb3.size; omega⟩
 have HGL3 : Aside0 (g < w3.heap.size) := ⟨by have := HGL.out; have := hb3.size; omega⟩
 clear f0 f1 f2 f3 f4 f5 q0 q1 q2 q3 q4 q5 q6 q7 r0 r1 r2 r3 r4 r5 zf0 zr0 zf1 zr1 zf2 zr2 zf3 zr3 zf4 zr4 zf5 zr5 hl0 hl1 hl2
 clear HB HD HS HV HV2 HR HCD hb3 hRD hsz hneb
 have HB := HB3
 have HD := HD3
 have HS := HS3
 have HV := HV3
 have HR := HR2
 clear HB3 HD3 HS3 HV3 HR2
 obtain ⟨f0, f1, f2, f3, f4, f5⟩ := boxR_cells HD.out.f
 obtain ⟨q0, q1, q2, q3, q4, q5, q6, q7⟩ := box_cells HD.out.c
 obtain ⟨r0, r1, r2, r3, r4, r5⟩ := boxR_cells HD.out.r
 have zf0 := blk_frozen HD.out.f 0
 have zf1 := blk_frozen HD.out.f 1
 have zf2 := blk_frozen HD.out.f 2
 have zf3 := blk_frozen HD.out.f 3
 have zf4 := blk_frozen HD.out.f 4
 have zf5 := blk_frozen HD.out.f 5
 have zr0 := blk_frozen HD.out.r 0
 have zr1 := blk_frozen HD.out.r 1
 have zr2 := blk_frozen HD.out.r 2
 have zr3 := blk_frozen HD.out.r 3
 have zr4 := blk_frozen HD.out.r 4
 have zr5 := blk_frozen HD.out.r 5
 have hl0 : b < w3.heap.size := by have := HS.out; omega
 have hl1 : b + 1 < w3.heap.size := by have := HS.out; omega
 have hl2 : b + 1 + 1 < w3.heap.size := by have := HS.out; omega
 obtain ⟨ce, hcl, hM, hcc, hfr⟩ := Kd.R_elem HR.out z36 (t2 : Int) n1 n2
 obtain rfl := k36_openM hM
 have k4 := hcc 4 _ rfl
 have z4 := hfr 4
 have k5 := hcc 5 _ rfl
 have z5 := hfr 5
 simp only [show kN.sz = 13 from rfl, Int.toNat_natCast] at k4 z4 k5 z5
 clear hcl hM hcc hfr
 go_wp2
 clear k4 z4 k5 z5
 obtain ⟨w4, hw4⟩ : ∃ w4, w4 = w3.setCell ⟨b, 3, none⟩ (.slice (some ⟨gd, 0, none⟩) R.Dead.length capd) := ⟨_, rfl⟩
 rw [← hw4]
 have hneb : ∀ k, ok3 ok b k ∧ k < S1 → k ≠ b := fun k hk => by rcases hk.1 with ⟨_, q⟩ | q <;> omega
 have HD4 : Aside0 (DoAt b #[.slice (some ⟨g, 0, none⟩) R.N.length cap, .slice A1 R.L.length c1, .slice A2 R.Cov.length c2, .slice (some ⟨gd, 0, none⟩) R.Dead.length capd, .slice A4 R.Above.length c4, .slice A5 R.Firsts.length c5] #[.int .i64 5, .int .i64 x1, .int .i64 (t2 : Int), .string x3, .string x4, .int .i64 x5, .int .i64 x6, .int .i64 x7] w4) := ⟨by rw [hw4]; exact HD.out.set 3 _⟩
 have HV4 : Aside0 (RefV R w4 _ _) := ⟨by rw [hw4]; exact HV.out.set b 3 (.slice (some ⟨gd, 0, none⟩) R.Dead.length capd) hneb⟩
 have HR4 : Aside0 (kN.R 36 w4 _ _ _ R.N) := ⟨by rw [hw4]; exact Kd.R_far (p := ⟨b, 3, none⟩) HR.out (fun k hk => by have h1 : w1.heap.size ≤ k := hk; have := HS1.out; have := HSB.out; show k ≠ b; omega) (.slice (some ⟨gd, 0, none⟩) R.Dead.length capd)⟩
 have HRD4 : Aside0 (Kd.bool.R 4 w4 _ _ _ R.Dead) := ⟨by rw [hw4]; exact Kd.R_far (p := ⟨b, 3, none⟩) HRD.out (fun k hk => by have h1 : w2.heap.size ≤ k := hk; have := hgdb; have := HGL.out; have := HSB.out; have := HGB.out; show k ≠ b; omega) (.slice (some ⟨gd, 0, none⟩) R.Dead.length capd)⟩
 have HB4 : Aside0 (Below b w w4) := ⟨by rw [hw4]; exact HB.out.setCell (Nat.le_refl _) _⟩
 have HS4 : Aside0 (b + 3 ≤ w4.heap.size) := ⟨by rw [hw4]; simpa using HS.out⟩
 clear f0 f1 f2 f3 f4 f5 q0 q1 q2 q3 q4 q5 q6 q7 r0 r1 r2 r3 r4 r5 zf0 zr0 zf1 zr1 zf2 zr2 zf3 zr3 zf4 zr4 zf5 zr5 hl0 hl1 hl2
 clear HB HD HS HV HR HRD hw4 hneb
 have HB := HB4
 have HD := HD4
 have HS := HS4
 have HV := HV4
 have HR := HR4
 have HRD := HRD4
 clear HB4 HD4 HS4 HV4 HR4 HRD4
 have HRg := Aside0.mk (Kd.R_reok (ok := fun k => k = g) rfl HR.out (fun k hk => by simpa [Value.ownBlock] using (show some k = (Value.slice (some ⟨g, 0, none⟩) R.N.length cap).ownBlock from hk.symm)))
 obtain ⟨f0, f1, f2, f3, f4, f5⟩ := boxR_cells HD.out.f
 obtain ⟨q0, q1, q2, q3, q4, q5, q6, q7⟩ := box_cells HD.out.c
 obtain ⟨r0, r1, r2, r3, r4, r5⟩ := boxR_cells HD.out.r
 have zf0 := blk_frozen HD.out.f 0
 have zf1 := blk_frozen HD.out.f 1
 have zf2 := blk_frozen HD.out.f 2
 have zf3 := blk_frozen HD.out.f 3
 have zf4 := blk_frozen HD.out.f 4
 have zf5 := blk_frozen HD.out.f 5
 have zr0 := blk_frozen HD.out.r 0
 have zr1 := blk_frozen HD.out.r 1
 have zr2 := blk_frozen HD.out.r 2
 have zr3 := blk_frozen HD.out.r 3
 have zr4 := blk_frozen HD.out.r 4
 have zr5 := blk_frozen HD.out.r 5
 have hl0 : b < w4.heap.size := by have := HS.out; omega
 have hl1 : b + 1 < w4.heap.size := by have := HS.out; omega
 have hl2 : b + 1 + 1 < w4.heap.size := by have := HS.out; omega
 obtain ⟨ce, hcl, hM, hcc, hfr⟩ := Kd.R_elem HR.out z36 (t2 : Int) n1 n2
 obtain rfl := k36_openM hM
 have HCC := Aside0.mk hcc
 clear hcl hM hcc hfr
 have hne2 : ∀ k, ((ok3 ok b k ∧ k < S1) ∨ S1 ≤ k) → k ≠ b + 1 + 1 := fun k hk => by have := HSB.out; rcases hk with ⟨⟨_, hk⟩ | hk, _⟩ | hk <;> omega
 have hfin : ∀ k, ((ok3 ok b k ∧ k < S1) ∨ S1 ≤ k) → ok k ∨ b ≤ k := fun k hk => by
  have := HSB.out
  rcases hk with ⟨⟨q, hk⟩ | hk, _⟩ | hk
  ·exact Or.inl q
  ·exact Or.inr (by omega)
  ·exact Or.inr (by omega)
 have hseg := Kd.R_seg HR.out (t2 : Int) n1 n2 (seg := [(.int .i64 (max x5 0)), (.int .i64 (max x6 0))]) (j := 4) (x' := (⟨(R.n (t2 : Int)).f0, (R.n (t2 : Int)).f1, (R.n (t2 : Int)).f2, (R.n (t2 : Int)).f3, max x5 0, max x6 0, (R.n (t2 : Int)).f6, (R.n (t2 : Int)).f7, (R.n (t2 : Int)).f8, (R.n (t2 : Int)).f9, (R.n (t2 : Int)).f10⟩ : Node)) (okp := fun k => w1.heap.size ≤ k ∧ k ≠ g) rfl HCC.out (show 4 + 2 ≤ 13 from by decide) (k36_mkM _ _ _ _) (fun _ hk => hk)
 have HX : RefV ⟨R.N.set (t2 : Int).toNat ((⟨(R.n (t2 : Int)).f0, (R.n (t2 : Int)).f1, (R.n (t2 : Int)).f2, (R.n (t2 : Int)).f3, max x5 0, max x6 0, (R.n (t2 : Int)).f6, (R.n (t2 : Int)).f7, (R.n (t2 : Int)).f8, (R.n (t2 : Int)).f9, (R.n (t2 : Int)).f10⟩ : Node)), R.L, R.Cov, R.Dead, R.Above, R.Firsts⟩ ((w4.setCell ⟨g, t2 * 13 + 4, none⟩ (.int .i64 (max x5 0))).setCell ⟨g, t2 * 13 + 5, none⟩ (.int .i64 (max x6 0))) (fun k => (ok3 ok b k ∧ k < S1) ∨ S1 ≤ k) #[.slice (some ⟨g, 0, none⟩) R.N.length cap, .slice A1 R.L.length c1, .slice A2 R.Cov.length c2, .slice (some ⟨gd, 0, none⟩) R.Dead.length capd, .slice A4 R.Above.length c4, .slice A5 R.Firsts.length c5] := by
  obtain ⟨y0, y1, y2, y3, y4, y5⟩ := RefV.vs (RefV.set (RefV.set HV.out g (t2 * 13 + 4) (.int .i64 (max x5 0)) (fun k hk => by have := HGB.out; omega)) g (t2 * 13 + 5) (.int .i64 (max x6 0)) (fun k hk => by have := HGB.out; omega))
  have yN := Kd.R_V (base' := 0) hseg.1
  have yD := Kd.R_V (base' := 0) (Kd.R_far (p := ⟨g, t2 * 13 + 5, none⟩) (Kd.R_far (p := ⟨g, t2 * 13 + 4, none⟩) HRD.out (fun k hk => by have h1 : w2.heap.size ≤ k := hk; have := HGL.out; show k ≠ g; omega) (.int .i64 (max x5 0))) (fun k hk => by have h1 : w2.heap.size ≤ k := hk; have := HGL.out; show k ≠ g; omega) (.int .i64 (max x6 0)))
  exact ⟨_, _, _, _, _, _, rfl, V_re yN (fun k hk => Or.inr (by have h1 : w1.heap.size ≤ k := hk; have := HS1.out; omega)), V_re y1 (fun _ hk => Or.inl hk), V_re y2 (fun _ hk => Or.inl hk), V_re yD (fun k hk => Or.inr (by have h1 : w2.heap.size ≤ k := hk; have := HGL.out; have := HGB.out; omega)), V_re y4 (fun _ hk => Or.inl hk), V_re y5 (fun _ hk => Or.inl hk)⟩
 have HBX : Below b w ((w4.setCell ⟨g, t2 * 13 + 4, none⟩ (.int .i64 (max x5 0))).setCell ⟨g, t2 * 13 + 5, none⟩ (.int .i64 (max x6 0))) := (Below.setCell (Below.setCell HB.out (by have := HGB.out; have := HSB.out; show b ≤ g; omega) _) (by have := HGB.out; have := HSB.out; show b ≤ g; omega) _)
 refine bodyPost_ret (v := .tuple #[.agg #[.slice (some ⟨g, 0, none⟩) R.N.length cap, .slice A1 R.L.length c1, .slice A2 R.Cov.length c2, .slice (some ⟨gd, 0, none⟩) R.Dead.length capd, .slice A4 R.Above.length c4, .slice A5 R.Firsts.length c5], .int .i64 0, .int .i64 0]) (by simp [results, Try.results19, go_sem, r0, r1, r2, r3, r4, r5, hgb2, hgb5]) rfl ⟨_, rfl, ?_, ?_⟩
 ·rw [← Hb.out]
  exact (((((((HX.set _ 0 _ hne2).set _ 1 _ hne2).set _ 2 _ hne2).set _ 3 _ hne2).set _ 4 _ hne2).set _ 5 _ hne2)).mono hfin
 ·have hge : b ≤ b + 1 + 1 := by omega
  rw [← Hb.out]
  exact ((((((HBX.setCell hge _).setCell hge _).setCell hge _).setCell hge _).setCell hge _).setCell hge _)
set_option maxHeartbeats 8000000 in
set_option maxRecDepth 100000 in
theorem rdo_time0 (R : Ref) (c : Chg) (w : World) (vs : Array Value) (m : Nat) (ok : Nat → Prop) (h : RefV R w ok vs) (hO : R.Ok m) (hm : m ≤ 1000000) (s3 : c.f3.size ≤ 1000000) (s4 : c.f4.size ≤ 1000000) (hk : c.f0 = 6) (hE : R.wrongE c = 0) (hin : 0 ≤ c.f2 ∧ c.f2 < R.N.length) (hj : c.f5 = 0) :
  Calls Try.prog 19 #[.agg vs, .agg (encC c).toArray] w fun e w' => ∃ vs', e = .returned (.tuple #[.agg vs', .int .i64 0, .int .i64 0]) ∧ RefV (⟨R.N.set c.f2.toNat ((⟨(R.n c.f2).f0, (R.n c.f2).f1, (R.n c.f2).f2, (R.n c.f2).f3, (R.n c.f2).f4, (R.n c.f2).f5, (R.n c.f2).f6, (R.n c.f2).f7, (R.n c.f2).f8, ⟨c.f7, (R.n c.f2).f9.f1, (R.n c.f2).f9.f2⟩, (R.n c.f2).f10⟩ : Node)), R.L, R.Cov, R.Dead, R.Above, R.Firsts⟩) w' (fun k => ok k ∨ w.heap.size ≤ k) vs' ∧ Below w.heap.size w w' := by
 have hW := fun W (hB : Below w.heap.size w W) => refWrong_calls R c W vs m (h.below hB).at hO hm s3 s4
 rw [hE] at hW
 obtain ⟨x0, x1, x2, x3, x4, x5, x6, x7⟩ := c
 simp only at *
 subst hk
 subst hj
 obtain ⟨t2, rfl⟩ : ∃ t : Nat, x2 = t := ⟨x2.toNat, by omega⟩
 have n1 : (0 : Int) ≤ (t2 : Int) := hin.1
 have n2 : (t2 : Int) < (R.N.length : Int) := hin.2
 have n3 : (t2 : Int) < (R.Dead.length : Int) := by rw [hO.Dead]; exact n2
 clear hin hE
 have hV := h.bound
 obtain ⟨A0, c0, A1, c1, A2, c2, A3, c3, A4, c4, A5, c5, rfl⟩ := hV.form
 clear h
 have HW := Aside0.mk hW
 have HV0 := Aside0.mk hV
 have HO := Aside0.mk hO
 have HM := Aside0.mk hm
 clear hW hV hO hm
 obtain ⟨b, hb⟩ : ∃ b, b = w.heap.size := ⟨_, rfl⟩
 obtain ⟨W0, hW0⟩ : ∃ W0 : World, W0 = ((w.alloc (.cells #[.slice A0 R.N.length c0, .slice A1 R.L.length c1, .slice A2 R.Cov.length c2, .slice A3 R.Dead.length c3, .slice A4 R.Above.length c4, .slice A5 R.Firsts.length c5] TR)).alloc (.cells #[.int .i64 6, .int .i64 x1, .int .i64 (t2 : Int), .string x3, .string x4, .int .i64 0, .int .i64 x6, .int .i64 x7] TC)).alloc (.cells #[.slice none 0 0, .slice none 0 0, .slice none 0 0, .slice none 0 0, .slice none 0 0, .slice none 0 0] TR) := ⟨_, rfl⟩
 have hB0 : Below b w W0 := by rw [hW0, hb]; exact (((Below.refl _ w).alloc (Nat.le_refl _) _).alloc (by simp) _).alloc (by simp; omega) _
 have hs0 : W0.heap.size = b + 3 := by rw [hW0, hb]; simp
 have hd : DoAt b #[.slice A0 R.N.length c0, .slice A1 R.L.length c1, .slice A2 R.Cov.length c2, .slice A3 R.Dead.length c3, .slice A4 R.Above.length c4, .slice A5 R.Firsts.length c5] #[.int .i64 6, .int .i64 x1, .int .i64 (t2 : Int), .string x3, .string x4, .int .i64 0, .int .i64 x6, .int .i64 x7] W0 := by
  rw [hW0, hb]
  have e0 := heap_alloc_new w (.cells #[.slice A0 R.N.length c0, .slice A1 R.L.length c1, .slice A2 R.Cov.length c2, .slice A3 R.Dead.length c3, .slice A4 R.Above.length c4, .slice A5 R.Firsts.length c5] TR)
  have e1 := heap_alloc_new (w.alloc (.cells #[.slice A0 R.N.length c0, .slice A1 R.L.length c1, .slice A2 R.Cov.length c2, .slice A3 R.Dead.length c3, .slice A4 R.Above.length c4, .slice A5 R.Firsts.length c5] TR)) (.cells #[.int .i64 6, .int .i64 x1, .int .i64 (t2 : Int), .string x3, .string x4, .int .i64 0, .int .i64 x6, .int .i64 x7] TC)
  have e2 := heap_alloc_new ((w.alloc (.cells #[.slice A0 R.N.length c0, .slice A1 R.L.length c1, .slice A2 R.Cov.length c2, .slice A3 R.Dead.length c3, .slice A4 R.Above.length c4, .slice A5 R.Firsts.length c5] TR)).alloc (.cells #[.int .i64 6, .int .i64 x1, .int .i64 (t2 : Int), .string x3, .string x4, .int .i64 0, .int .i64 x6, .int .i64 x7] TC)) (.cells #[.slice none 0 0, .slice none 0 0, .slice none 0 0, .slice none 0 0, .slice none 0 0, .slice none 0 0] TR)
  simp only [World.size_alloc] at e1 e2
  exact ⟨(Below.heap_alloc _ _ _ (by simp; omega)).trans ((Below.heap_alloc _ _ _ (by simp)).trans e0), (Below.heap_alloc _ _ _ (by simp)).trans e1, e2⟩
 have HV := Aside0.mk ((HV0.out.below (hb ▸ hB0)).mono (ok' := ok3 ok b) (fun k hk => Or.inl (hb ▸ hk)))
 have HB := Aside0.mk hB0
 have HD := Aside0.mk hd
 have HS := Aside0.mk (show b + 3 ≤ W0.heap.size by omega)
 have Hb := Aside0.mk hb
 unfold encC
 obtain ⟨f0, f1, f2, f3, f4, f5⟩ := boxR_cells HD.out.f
 obtain ⟨q0, q1, q2, q3, q4, q5, q6, q7⟩ := box_cells HD.out.c
 obtain ⟨r0, r1, r2, r3, r4, r5⟩ := boxR_cells HD.out.r
 have zf0 := blk_frozen HD.out.f 0
 have zf1 := blk_frozen HD.out.f 1
 have zf2 := blk_frozen HD.out.f 2
 have zf3 := blk_frozen HD.out.f 3
 have zf4 := blk_frozen HD.out.f 4
 have zf5 := blk_frozen HD.out.f 5
 have zr0 := blk_frozen HD.out.r 0
 have zr1 := blk_frozen HD.out.r 1
 have zr2 := blk_frozen HD.out.r 2
 have zr3 := blk_frozen HD.out.r 3
 have zr4 := blk_frozen HD.out.r 4
 have zr5 := blk_frozen HD.out.r 5
 have hl0 : b < W0.heap.size := by have := HS.out; omega
 have hl1 : b + 1 < W0.heap.size := by have := HS.out; omega
 have hl2 : b + 1 + 1 < W0.heap.size := by have := HS.out; omega
 clear hB0 hd hs0
 go_enter Try.func19, Try.ntmps19
 go_wp2_with fail
 rw [← hW0, ← hb]
 clear hW0 hb
 refine (HW.out W0 (Hb.out ▸ HB.out)).mono ?_
 rintro e w1 ⟨rfl, hb1⟩
 have HB' : Aside0 (Below b w w1) := ⟨HB.out.trans (hb1.mono (by have := HS.out; omega))⟩
 have HD' := Aside0.mk (HD.out.below hb1)
 have HV' := Aside0.mk (HV.out.below hb1)
 have HS' := Aside0.mk (Nat.le_trans HS.out hb1.size)
 clear f0 f1 f2 f3 f4 f5 q0 q1 q2 q3 q4 q5 q6 q7 r0 r1 r2 r3 r4 r5 zf0 zr0 zf1 zr1 zf2 zr2 zf3 zr3 zf4 zr4 zf5 zr5 hl0 hl1 hl2
 clear HB HD HV HS hb1
 have HB := HB'
 have HD := HD'
 have HV := HV'
 have HS := HS'
 clear HB' HD' HV' HS'
 obtain ⟨f0, f1, f2, f3, f4, f5⟩ := boxR_cells HD.out.f
 obtain ⟨q0, q1, q2, q3, q4, q5, q6, q7⟩ := box_cells HD.out.c
 obtain ⟨r0, r1, r2, r3, r4, r5⟩ := boxR_cells HD.out.r
 have zf0 := blk_frozen HD.out.f 0
 have zf1 := blk_frozen HD.out.f 1
 have zf2 := blk_frozen HD.out.f 2
 have zf3 := blk_frozen HD.out.f 3
 have zf4 := blk_frozen HD.out.f 4
 have zf5 := blk_frozen HD.out.f 5
 have zr0 := blk_frozen HD.out.r 0
 have zr1 := blk_frozen HD.out.r 1
 have zr2 := blk_frozen HD.out.r 2
 have zr3 := blk_frozen HD.out.r 3
 have zr4 := blk_frozen HD.out.r 4
 have zr5 := blk_frozen HD.out.r 5
 have hl0 : b < w1.heap.size := by have := HS.out; omega
 have hl1 : b + 1 < w1.heap.size := by have := HS.out; omega
 have hl2 : b + 1 + 1 < w1.heap.size := by have := HS.out; omega
 obtain ⟨S1, hS1⟩ : ∃ S, S = w1.heap.size := ⟨_, rfl⟩
 have HV1 := Aside0.mk HV.out.bound
 rw [← hS1] at HV1
 clear HV
 have HV := HV1
 clear HV1
 have HS1 := Aside0.mk hS1
 have HSB := Aside0.mk (show b + 3 ≤ S1 by rw [hS1]; exact HS.out)
 clear hS1
 have HCN := Aside0.mk (V_C HV.out.vs.1)
 have hlN : R.N.length * 112 ≤ 140737488355328 := by have := HO.out.N; omega
 have hlD : R.Dead.length * 1 ≤ 140737488355328 := by have := HO.out.N; have := HO.out.Dead; omega
 have HLN := Aside0.mk hlN
 have HLD := Aside0.mk hlD
 clear hlN hlD
 go_wp2_with (at_builtin; refine wp_copy kN KM_N rfl _ _ 43 36 (.agg #[.int .i64 0, .int .i64 0, .int .i64 0, .int .i64 0, .int .i64 0, .int .i64 0, .int .i64 0, .int .i64 0, .int .i64 0, .int .i64 0, .int .i64 0, .int .i64 0, .string ⟨#[]⟩]) 112 rfl Try.underlying43 info36 rfl (by decide) (by decide) w1.heap.size rfl A0 _ _ R.N rfl rfl HCN.out HLN.out ?_)
 intro v1 w2 hR hb2
 obtain ⟨g, cap, rfl, hgl, hgb, hgs⟩ := R_form hR (by omega)
 rw [← HS1.out] at hgb hgs
 have HR := Aside0.mk hR
 have HGL := Aside0.mk hgl
 have HGB := Aside0.mk hgb
 clear hR hgl hgb hgs HCN
 have HB' : Aside0 (Below b w w2) := ⟨HB.out.trans (hb2.mono (by have := HS.out; omega))⟩
 have HD' := Aside0.mk (HD.out.below hb2)
 have HV' := Aside0.mk (HV.out.below hb2)
 have HS' := Aside0.mk (Nat.le_trans HS.out hb2.size)
 clear f0 f1 f2 f3 f4 f5 q0 q1 q2 q3 q4 q5 q6 q7 r0 r1 r2 r3 r4 r5 zf0 zr0 zf1 zr1 zf2 zr2 zf3 zr3 zf4 zr4 zf5 zr5 hl0 hl1 hl2
 clear HB HD HV HS hb2
 have HB := HB'
 have HD := HD'
 have HV := HV'
 have HS := HS'
 clear HB' HD' HV' HS'
 obtain ⟨f0, f1, f2, f3, f4, f5⟩ := boxR_cells HD.out.f
 obtain ⟨q0, q1, q2, q3, q4, q5, q6, q7⟩ := box_cells HD.out.c
 obtain ⟨r0, r1, r2, r3, r4, r5⟩ := boxR_cells HD.out.r
 have zf0 := blk_frozen HD.out.f 0
 have zf1 := blk_frozen HD.out.f 1
 have zf2 := blk_frozen HD.out.f 2
 have zf3 := blk_frozen HD.out.f 3
 have zf4 := blk_frozen HD.out.f 4
 have zf5 := blk_frozen HD.out.f 5
 have zr0 := blk_frozen HD.out.r 0
 have zr1 := blk_frozen HD.out.r 1
 have zr2 := blk_frozen HD.out.r 2
 have zr3 := blk_frozen HD.out.r 3
 have zr4 := blk_frozen HD.out.r 4
 have zr5 := blk_frozen HD.out.r 5
 have hl0 : b < w2.heap.size := by have := HS.out; omega
 have hl1 : b + 1 < w2.heap.size := by have := HS.out; omega
 have hl2 : b + 1 + 1 < w2.heap.size := by have := HS.out; omega
 skip
 have hneb : ∀ k, ok3 ok b k ∧ k < S1 → k ≠ b := fun k hk => by rcases hk.1 with ⟨_, q⟩ | q <;> omega
 have HV2 := Aside0.mk (HV.out.set b 0 (.slice (some ⟨g, 0, none⟩) R.N.length cap) hneb)
 have HCD := Aside0.mk (V_C HV2.out.vs.2.2.2.1)
 clear hneb
 go_wp2_with (at_builtin; refine wp_copy Kd.bool KM_B rfl _ _ 46 4 (.bool false) 1 rfl Try.underlying46 info4 rfl (by decide) (by decide) w2.heap.size (by simp) A3 _ _ R.Dead rfl rfl HCD.out HLD.out ?_)
 intro v2 w3 hRD hb3
 obtain ⟨gd, capd, rfl, hgdl, hgdb, _⟩ := R_form hRD (by omega)
 have hsz : (w2.setCell ⟨b, 0, none⟩ (.slice (some ⟨g, 0, none⟩) R.N.length cap)).heap.size = w2.heap.size := by simp
 have hgb : g ≠ b := by have := HGB.out; have := HS1.out; have := HSB.out; omega
 have hgb1 : g ≠ b + 1 := by have := HGB.out; have := HSB.out; omega
 have hgb2 : g ≠ b + 1 + 1 := by have := HGB.out; have := HSB.out; omega
 have hgdg : gd ≠ g := by have := HGL.out; omega
 have hgdb' : gd ≠ b := by have := HS.out; omega
 have hgdb1 : gd ≠ b + 1 := by have := HS.out; omega
 have hgdb2 : gd ≠ b + 1 + 1 := by have := HS.out; omega
 have hgb3 := hgb.symm
 have hgb4 := hgb1.symm
 have hgb5 := hgb2.symm
 have hgdb3 := hgdb'.symm
 have hgdb4 := hgdb1.symm
 have hgdb5 := hgdb2.symm
 have hgdg' := hgdg.symm
 have hneb : ∀ k, ok3 ok b k ∧ k < S1 → k ≠ b := fun k hk => by rcases hk.1 with ⟨_, q⟩ | q <;> omega
 have HR2 := Aside0.mk (Kd.R_below (Kd.R_far (p := ⟨b, 0, none⟩) HR.out (fun k hk => by have h1 : w1.heap.size ≤ k := hk; have := HS1.out; have := HSB.out; show k ≠ b; omega) (.slice (some ⟨g, 0, none⟩) R.N.length cap)) (hsz ▸ hb3))
 have HRD := Aside0.mk hRD
 have HV3 := Aside0.mk (HV2.out.below (hsz ▸ hb3))
 have HB3 : Aside0 (Below b w w3) := ⟨(HB.out.setCell (Nat.le_refl _) _).trans (hb3.mono (by have := HS.out; omega))⟩
 have HD3 : Aside0 (DoAt b #[.slice (some ⟨g, 0, none⟩) R.N.length cap, .slice A1 R.L.length c1, .slice A2 R.Cov.length c2, .slice A3 R.Dead.length c3, .slice A4 R.Above.length c4, .slice A5 R.Firsts.length c5] #[.int .i64 6, .int .i64 x1, .int .i64 (t2 : Int), .string x3, .string x4, .int .i64 0, .int .i64 x6, .int .i64 x7] w3) := ⟨(HD.out.set 0 (.slice (some ⟨g, 0, none⟩) R.N.length cap)).below (hsz ▸ hb3)⟩
 have HS3 : Aside0 (b + 3 ≤ w3.heap.size) := ⟨by have := HS.out; have := hb3.size; omega⟩
 have HGL3 : Aside0 (g < w3.heap.size) := ⟨by have := HGL.out; have := hb3.size; omega⟩
 clear f0 f1 f2 f3 f4 f5 q0 q1 q2 q3 q4 q5 q6 q7 r0 r1 r2 r3 r4 r5 zf0 zr0 zf1 zr1 zf2 zr2 zf3 zr3 zf4 zr4 zf5 zr5 hl0 hl1 hl2
 clear HB HD HS HV HV2 HR HCD hb3 hRD hsz hneb
 have HB := HB3
 have HD := HD3
 have HS := HS3
 have HV := HV3
 have HR := HR2
 clear HB3 HD3 HS3 HV3 HR2
 obtain ⟨f0, f1, f2, f3, f4, f5⟩ := boxR_cells HD.out.f
 obtain ⟨q0, q1, q2, q3, q4, q5, q6, q7⟩ := box_cells HD.out.c
 obtain ⟨r0, r1, r2, r3, r4, r5⟩ := boxR_cells HD.out.r
 have zf0 := blk_frozen HD.out.f 0
 have zf1 := blk_frozen HD.out.f 1
 have zf2 := blk_frozen HD.out.f 2
 have zf3 := blk_frozen HD.out.f 3
 have zf4 := blk_frozen HD.out.f 4
 have zf5 := blk_frozen HD.out.f 5
 have zr0 := blk_frozen HD.out.r 0
 have zr1 := blk_frozen HD.out.r 1
 have zr2 := blk_frozen HD.out.r 2
 have zr3 := blk_frozen HD.out.r 3
 have zr4 := blk_frozen HD.out.r 4
 have zr5 := blk_frozen HD.out.r 5
 have hl0 : b < w3.heap.size := by have := HS.out; omega
 have hl1 : b + 1 < w3.heap.size := by have := HS.out; omega
 have hl2 : b + 1 + 1 < w3.heap.size := by have := HS.out; omega
 go_wp2_with fail
 obtain ⟨w4, hw4⟩ : ∃ w4, w4 = w3.setCell ⟨b, 3, none⟩ (.slice (some ⟨gd, 0, none⟩) R.Dead.length capd) := ⟨_, rfl⟩
 rw [← hw4]
 have hneb : ∀ k, ok3 ok b k ∧ k < S1 → k ≠ b := fun k hk => by rcases hk.1 with ⟨_, q⟩ | q <;> omega
 have HD4 : Aside0 (DoAt b #[.slice (some ⟨g, 0, none⟩) R.N.length cap, .slice A1 R.L.length c1, .slice A2 R.Cov.length c2, .slice (some ⟨gd, 0, none⟩) R.Dead.length capd, .slice A4 R.Above.length c4, .slice A5 R.Firsts.length c5] #[.int .i64 6, .int .i64 x1, .int .i64 (t2 : Int), .string x3, .string x4, .int .i64 0, .int .i64 x6, .int .i64 x7] w4) := ⟨by rw [hw4]; exact HD.out.set 3 _⟩
 have HV4 : Aside0 (RefV R w4 _ _) := ⟨by rw [hw4]; exact HV.out.set b 3 (.slice (some ⟨gd, 0, none⟩) R.Dead.length capd) hneb⟩
 have HR4 : Aside0 (kN.R 36 w4 _ _ _ R.N) := ⟨by rw [hw4]; exact Kd.R_far (p := ⟨b, 3, none⟩) HR.out (fun k hk => by have h1 : w1.heap.size ≤ k := hk; have := HS1.out; have := HSB.out; show k ≠ b; omega) (.slice (some ⟨gd, 0, none⟩) R.Dead.length capd)⟩
 have HRD4 : Aside0 (Kd.bool.R 4 w4 _ _ _ R.Dead) := ⟨by rw [hw4]; exact Kd.R_far (p := ⟨b, 3, none⟩) HRD.out (fun k hk => by have h1 : w2.heap.size ≤ k := hk; have := hgdb; have := HGL.out; have := HSB.out; have := HGB.out; show k ≠ b; omega) (.slice (some ⟨gd, 0, none⟩) R.Dead.length capd)⟩
 have HB4 : Aside0 (Below b w w4) := ⟨by rw [hw4]; exact HB.out.setCell (Nat.le_refl _) _⟩
 have HS4 : Aside0 (b + 3 ≤ w4.heap.size) := ⟨by rw [hw4]; simpa using HS.out⟩
 clear f0 f1 f2 f3 f4 f5 q0 q1 q2 q3 q4 q5 q6 q7 r0 r1 r2 r3 r4 r5 zf0 zr0 zf1 zr1 zf2 zr2 zf3 zr3 zf4 zr4 zf5 zr5 hl0 hl1 hl2
 clear HB HD HS HV HR HRD hw4 hneb
 have HB := HB4
 have HD := HD4
 have HS := HS4
 have HV := HV4
 have HR := HR4
 have HRD := HRD4
 clear HB4 HD4 HS4 HV4 HR4 HRD4
 have HRg := Aside0.mk (Kd.R_reok (ok := fun k => k = g) rfl HR.out (fun k hk => by simpa [Value.ownBlock] using (show some k = (Value.slice (some ⟨g, 0, none⟩) R.N.length cap).ownBlock from hk.symm)))
 obtain ⟨f0, f1, f2, f3, f4, f5⟩ := boxR_cells HD.out.f
 obtain ⟨q0, q1, q2, q3, q4, q5, q6, q7⟩ := box_cells HD.out.c
 obtain ⟨r0, r1, r2, r3, r4, r5⟩ := boxR_cells HD.out.r
 have zf0 := blk_frozen HD.out.f 0
 have zf1 := blk_frozen HD.out.f 1
 have zf2 := blk_frozen HD.out.f 2
 have zf3 := blk_frozen HD.out.f 3
 have zf4 := blk_frozen HD.out.f 4
 have zf5 := blk_frozen HD.out.f 5
 have zr0 := blk_frozen HD.out.r 0
 have zr1 := blk_frozen HD.out.r 1
 have zr2 := blk_frozen HD.out.r 2
 have zr3 := blk_frozen HD.out.r 3
 have zr4 := blk_frozen HD.out.r 4
 have zr5 := blk_frozen HD.out.r 5
 have hl0 : b < w4.heap.size := by have := HS.out; omega
 have hl1 : b + 1 < w4.heap.size := by have := HS.out; omega
 have hl2 : b + 1 + 1 < w4.heap.size := by have := HS.out; omega
 obtain ⟨ce, hcl, hM, hcc, hfr⟩ := Kd.R_elem HR.out z36 (t2 : Int) n1 n2
 obtain rfl := k36_openM hM
 have k9 := hcc 9 _ rfl
 have z9 := hfr 9
 simp only [show kN.sz = 13 from rfl, Int.toNat_natCast] at k9 z9
 have HCC := Aside0.mk hcc
 clear hcl hM hcc hfr
 refine wp_region_still_tail 10 (by kernel_rfl) (by kernel_rfl) ?_
 simp only [List.take_succ_cons, List.take_zero, List.drop_succ_cons, List.drop_zero]
 repeat still_step
 refine wpStill_nil ?_
 change wpList _ _ _ _ _ w4.drew
 go_wp2
 have hne2 : ∀ k, ((ok3 ok b k ∧ k < S1) ∨ S1 ≤ k) → k ≠ b + 1 + 1 := fun k hk => by have := HSB.out; rcases hk with ⟨⟨_, hk⟩ | hk, _⟩ | hk <;> omega
 have hfin : ∀ k, ((ok3 ok b k ∧ k < S1) ∨ S1 ≤ k) → ok k ∨ b ≤ k := fun k hk => by
  have := HSB.out
  rcases hk with ⟨⟨q, hk⟩ | hk, _⟩ | hk
  ·exact Or.inl q
  ·exact Or.inr (by omega)
  ·exact Or.inr (by omega)
 have hseg := Kd.R_seg HR.out (t2 : Int) n1 n2 (seg := [(.int .i64 x7)]) (j := 9) (x' := (⟨(R.n (t2 : Int)).f0, (R.n (t2 : Int)).f1, (R.n (t2 : Int)).f2, (R.n (t2 : Int)).f3, (R.n (t2 : Int)).f4, (R.n (t2 : Int)).f5, (R.n (t2 : Int)).f6, (R.n (t2 : Int)).f7, (R.n (t2 : Int)).f8, ⟨x7, (R.n (t2 : Int)).f9.f1, (R.n (t2 : Int)).f9.f2⟩, (R.n (t2 : Int)).f10⟩ : Node)) (okp := fun k => w1.heap.size ≤ k ∧ k ≠ g) rfl HCC.out (show 9 + 1 ≤ 13 from by decide) (k36_mkM _ _ _ _) (fun _ hk => hk)
 have HX : RefV ⟨R.N.set (t2 : Int).toNat ((⟨(R.n (t2 : Int)).f0, (R.n (t2 : Int)).f1, (R.n (t2 : Int)).f2, (R.n (t2 : Int)).f3, (R.n (t2 : Int)).f4, (R.n (t2 : Int)).f5, (R.n (t2 : Int)).f6, (R.n (t2 : Int)).f7, (R.n (t2 : Int)).f8, ⟨x7, (R.n (t2 : Int)).f9.f1, (R.n (t2 : Int)).f9.f2⟩, (R.n (t2 : Int)).f10⟩ : Node)), R.L, R.Cov, R.Dead, R.Above, R.Firsts⟩ (w4.setCell ⟨g, t2 * 13 + 9, none⟩ (.int .i64 x7)) (fun k => (ok3 ok b k ∧ k < S1) ∨ S1 ≤ k) #[.slice (some ⟨g, 0, none⟩) R.N.length cap, .slice A1 R.L.length c1, .slice A2 R.Cov.length c2, .slice (some ⟨gd, 0, none⟩) R.Dead.length capd, .slice A4 R.Above.length c4, .slice A5 R.Firsts.length c5] := by
  obtain ⟨y0, y1, y2, y3, y4, y5⟩ := RefV.vs (RefV.set HV.out g (t2 * 13 + 9) (.int .i64 x7) (fun k hk => by have := HGB.out; omega))
  have yN := Kd.R_V (base' := 0) hseg.1
  have yD := Kd.R_V (base' := 0) (Kd.R_far (p := ⟨g, t2 * 13 + 9, none⟩) HRD.out (fun k hk => by have h1 : w2.heap.size ≤ k := hk; have := HGL.out; show k ≠ g; omega) (.int .i64 x7))
  exact ⟨_, _, _, _, _, _, rfl, V_re yN (fun k hk => Or.inr (by have h1 : w1.heap.size ≤ k := hk; have := HS1.out; omega)), V_re y1 (fun _ hk => Or.inl hk), V_re y2 (fun _ hk => Or.inl hk), V_re yD (fun k hk => Or.inr (by have h1 : w2.heap.size ≤ k := hk; have := HGL.out; have := HGB.out; omega)), V_re y4 (fun _ hk => Or.inl hk), V_re y5 (fun _ hk => Or.inl hk)⟩
 have HBX : Below b w (w4.setCell ⟨g, t2 * 13 + 9, none⟩ (.int .i64 x7)) := (Below.setCell HB.out (by have := HGB.out; have := HSB.out; show b ≤ g; omega) _)
 refine bodyPost_ret (v := .tuple #[.agg #[.slice (some ⟨g, 0, none⟩) R.N.length cap, .slice A1 R.L.length c1, .slice A2 R.Cov.length c2, .slice (some ⟨gd, 0, none⟩) R.Dead.length capd, .slice A4 R.Above.length c4, .slice A5 R.Firsts.length c5], .int .i64 0, .int .i64 0]) (by simp [results, Try.results19, go_sem, r0, r1, r2, r3, r4, r5, hgb2, hgb5]) rfl ⟨_, rfl, ?_, ?_⟩
 ·rw [← Hb.out]
  exact (((((((HX.set _ 0 _ hne2).set _ 1 _ hne2).set _ 2 _ hne2).set _ 3 _ hne2).set _ 4 _ hne2).set _ 5 _ hne2).below (below_drew1 (Below.refl _ _))).mono hfin
 ·have hge : b ≤ b + 1 + 1 := by omega
  rw [← Hb.out]
  exact below_drew1 ((((((HBX.setCell hge _).setCell hge _).setCell hge _).setCell hge _).setCell hge _).setCell hge _)
set_option maxHeartbeats 8000000 in
set_option maxRecDepth 100000 in
theorem rdo_time1 (R : Ref) (c : Chg) (w : World) (vs : Array Value) (m : Nat) (ok : Nat → Prop) (h : RefV R w ok vs) (hO : R.Ok m) (hm : m ≤ 1000000) (s3 : c.f3.size ≤ 1000000) (s4 : c.f4.size ≤ 1000000) (hk : c.f0 = 6) (hE : R.wrongE c = 0) (hin : 0 ≤ c.f2 ∧ c.f2 < R.N.length) (hj : c.f5 = 1) :
  Calls Try.prog 19 #[.agg vs, .agg (encC c).toArray] w fun e w' => ∃ vs', e = .returned (.tuple #[.agg vs', .int .i64 0, .int .i64 0]) ∧ RefV (⟨R.N.set c.f2.toNat ((⟨(R.n c.f2).f0, (R.n c.f2).f1, (R.n c.f2).f2, (R.n c.f2).f3, (R.n c.f2).f4, (R.n c.f2).f5, (R.n c.f2).f6, (R.n c.f2).f7, (R.n c.f2).f8, ⟨(R.n c.f2).f9.f0, c.f7, (R.n c.f2).f9.f2⟩, (R.n c.f2).f10⟩ : Node)), R.L, R.Cov, R.Dead, R.Above, R.Firsts⟩) w' (fun k => ok k ∨ w.heap.size ≤ k) vs' ∧ Below w.heap.size w w' := by
 have hW := fun W (hB : Below w.heap.size w W) => refWrong_calls R c W vs m (h.below hB).at hO hm s3 s4
 rw [hE] at hW
 obtain ⟨x0, x1, x2, x3, x4, x5, x6, x7⟩ := c
 simp only at *
 subst hk
 subst hj
 obtain ⟨t2, rfl⟩ : ∃ t : Nat, x2 = t := ⟨x2.toNat, by omega⟩
 have n1 : (0 : Int) ≤ (t2 : Int) := hin.1
 have n2 : (t2 : Int) < (R.N.length : Int) := hin.2
 have n3 : (t2 : Int) < (R.Dead.length : Int) := by rw [hO.Dead]; exact n2
 clear hin hE
 have hV := h.bound
 obtain ⟨A0, c0, A1, c1, A2, c2, A3, c3, A4, c4, A5, c5, rfl⟩ := hV.form
 clear h
 have HW := Aside0.mk hW
 have HV0 := Aside0.mk hV
 have HO := Aside0.mk hO
 have HM := Aside0.mk hm
 clear hW hV hO hm
 obtain ⟨b, hb⟩ : ∃ b, b = w.heap.size := ⟨_, rfl⟩
 obtain ⟨W0, hW0⟩ : ∃ W0 : World, W0 = ((w.alloc (.cells #[.slice A0 R.N.length c0, .slice A1 R.L.length c1, .slice A2 R.Cov.length c2, .slice A3 R.Dead.length c3, .slice A4 R.Above.length c4, .slice A5 R.Firsts.length c5] TR)).alloc (.cells #[.int .i64 6, .int .i64 x1, .int .i64 (t2 : Int), .string x3, .string x4, .int .i64 1, .int .i64 x6, .int .i64 x7] TC)).alloc (.cells #[.slice none 0 0, .slice none 0 0, .slice none 0 0, .slice none 0 0, .slice none 0 0, .slice none 0 0] TR) := ⟨_, rfl⟩
 have hB0 : Below b w W0 := by rw [hW0, hb]; exact (((Below.refl _ w).alloc (Nat.le_refl _) _).alloc (by simp) _).alloc (by simp; omega) _
 have hs0 : W0.heap.size = b + 3 := by rw [hW0, hb]; simp
 have hd : DoAt b #[.slice A0 R.N.length c0, .slice A1 R.L.length c1, .slice A2 R.Cov.length c2, .slice A3 R.Dead.length c3, .slice A4 R.Above.length c4, .slice A5 R.Firsts.length c5] #[.int .i64 6, .int .i64 x1, .int .i64 (t2 : Int), .string x3, .string x4, .int .i64 1, .int .i64 x6, .int .i64 x7] W0 := by
  rw [hW0, hb]
  have e0 := heap_alloc_new w (.cells #[.slice A0 R.N.length c0, .slice A1 R.L.length c1, .slice A2 R.Cov.length c2, .slice A3 R.Dead.length c3, .slice A4 R.Above.length c4, .slice A5 R.Firsts.length c5] TR)
  have e1 := heap_alloc_new (w.alloc (.cells #[.slice A0 R.N.length c0, .slice A1 R.L.length c1, .slice A2 R.Cov.length c2, .slice A3 R.Dead.length c3, .slice A4 R.Above.length c4, .slice A5 R.Firsts.length c5] TR)) (.cells #[.int .i64 6, .int .i64 x1, .int .i64 (t2 : Int), .string x3, .string x4, .int .i64 1, .int .i64 x6, .int .i64 x7] TC)
  have e2 := heap_alloc_new ((w.alloc (.cells #[.slice A0 R.N.length c0, .slice A1 R.L.length c1, .slice A2 R.Cov.length c2, .slice A3 R.Dead.length c3, .slice A4 R.Above.length c4, .slice A5 R.Firsts.length c5] TR)).alloc (.cells #[.int .i64 6, .int .i64 x1, .int .i64 (t2 : Int), .string x3, .string x4, .int .i64 1, .int .i64 x6, .int .i64 x7] TC)) (.cells #[.slice none 0 0, .slice none 0 0, .slice none 0 0, .slice none 0 0, .slice none 0 0, .slice none 0 0] TR)
  simp only [World.size_alloc] at e1 e2
  exact ⟨(Below.heap_alloc _ _ _ (by simp; omega)).trans ((Below.heap_alloc _ _ _ (by simp)).trans e0), (Below.heap_alloc _ _ _ (by simp)).trans e1, e2⟩
 have HV := Aside0.mk ((HV0.out.below (hb ▸ hB0)).mono (ok' := ok3 ok b) (fun k hk => Or.inl (hb ▸ hk)))
 have HB := Aside0.mk hB0
 have HD := Aside0.mk hd
 have HS := Aside0.mk (show b + 3 ≤ W0.heap.size by omega)
 have Hb := Aside0.mk hb
 unfold encC
 obtain ⟨f0, f1, f2, f3, f4, f5⟩ := boxR_cells HD.out.f
 obtain ⟨q0, q1, q2, q3, q4, q5, q6, q7⟩ := box_cells HD.out.c
 obtain ⟨r0, r1, r2, r3, r4, r5⟩ := boxR_cells HD.out.r
 have zf0 := blk_frozen HD.out.f 0
 have zf1 := blk_frozen HD.out.f 1
 have zf2 := blk_frozen HD.out.f 2
 have zf3 := blk_frozen HD.out.f 3
 have zf4 := blk_frozen HD.out.f 4
 have zf5 := blk_frozen HD.out.f 5
 have zr0 := blk_frozen HD.out.r 0
 have zr1 := blk_frozen HD.out.r 1
 have zr2 := blk_frozen HD.out.r 2
 have zr3 := blk_frozen HD.out.r 3
 have zr4 := blk_frozen HD.out.r 4
 have zr5 := blk_frozen HD.out.r 5
 have hl0 : b < W0.heap.size := by have := HS.out; omega
 have hl1 : b + 1 < W0.heap.size := by have := HS.out; omega
 have hl2 : b + 1 + 1 < W0.heap.size := by have := HS.out; omega
 clear hB0 hd hs0
 go_enter Try.func19, Try.ntmps19
 go_wp2_with fail
 rw [← hW0, ← hb]
 clear hW0 hb
 refine (HW.out W0 (Hb.out ▸ HB.out)).mono ?_
 rintro e w1 ⟨rfl, hb1⟩
 have HB' : Aside0 (Below b w w1) := ⟨HB.out.trans (hb1.mono (by have := HS.out; omega))⟩
 have HD' := Aside0.mk (HD.out.below hb1)
 have HV' := Aside0.mk (HV.out.below hb1)
 have HS' := Aside0.mk (Nat.le_trans HS.out hb1.size)
 clear f0 f1 f2 f3 f4 f5 q0 q1 q2 q3 q4 q5 q6 q7 r0 r1 r2 r3 r4 r5 zf0 zr0 zf1 zr1 zf2 zr2 zf3 zr3 zf4 zr4 zf5 zr5 hl0 hl1 hl2
 clear HB HD HV HS hb1
 have HB := HB'
 have HD := HD'
 have HV := HV'
 have HS := HS'
 clear HB' HD' HV' HS'
 obtain ⟨f0, f1, f2, f3, f4, f5⟩ := boxR_cells HD.out.f
 obtain ⟨q0, q1, q2, q3, q4, q5, q6, q7⟩ := box_cells HD.out.c
 obtain ⟨r0, r1, r2, r3, r4, r5⟩ := boxR_cells HD.out.r
 have zf0 := blk_frozen HD.out.f 0
 have zf1 := blk_frozen HD.out.f 1
 have zf2 := blk_frozen HD.out.f 2
 have zf3 := blk_frozen HD.out.f 3
 have zf4 := blk_frozen HD.out.f 4
 have zf5 := blk_frozen HD.out.f 5
 have zr0 := blk_frozen HD.out.r 0
 have zr1 := blk_frozen HD.out.r 1
 have zr2 := blk_frozen HD.out.r 2
 have zr3 := blk_frozen HD.out.r 3
 have zr4 := blk_frozen HD.out.r 4
 have zr5 := blk_frozen HD.out.r 5
 have hl0 : b < w1.heap.size := by have := HS.out; omega
 have hl1 : b + 1 < w1.heap.size := by have := HS.out; omega
 have hl2 : b + 1 + 1 < w1.heap.size := by have := HS.out; omega
 obtain ⟨S1, hS1⟩ : ∃ S, S = w1.heap.size := ⟨_, rfl⟩
 have HV1 := Aside0.mk HV.out.bound
 rw [← hS1] at HV1
 clear HV
 have HV := HV1
 clear HV1
 have HS1 := Aside0.mk hS1
 have HSB := Aside0.mk (show b + 3 ≤ S1 by rw [hS1]; exact HS.out)
 clear hS1
 have HCN := Aside0.mk (V_C HV.out.vs.1)
 have hlN : R.N.length * 112 ≤ 140737488355328 := by have := HO.out.N; omega
 have hlD : R.Dead.length * 1 ≤ 140737488355328 := by have := HO.out.N; have := HO.out.Dead; omega
 have HLN := Aside0.mk hlN
 have HLD := Aside0.mk hlD
 clear hlN hlD
 go_wp2_with (at_builtin; refine wp_copy kN KM_N rfl _ _ 43 36 (.agg #[.int .i64 0, .int .i64 0, .int .i64 0, .int .i64 0, .int .i64 0, .int .i64 0, .int .i64 0, .int .i64 0, .int .i64 0, .int .i64 0, .int .i64 0, .int .i64 0, .string ⟨#[]⟩]) 112 rfl Try.underlying43 info36 rfl (by decide) (by decide) w1.heap.size rfl A0 _ _ R.N rfl rfl HCN.out HLN.out ?_)
 intro v1 w2 hR hb2
 obtain ⟨g, cap, rfl, hgl, hgb, hgs⟩ := R_form hR (by omega)
 rw [← HS1.out] at hgb hgs
 have HR := Aside0.mk hR
 have HGL := Aside0.mk hgl
 have HGB := Aside0.mk hgb
 clear hR hgl hgb hgs HCN
 have HB' : Aside0 (Below b w w2) := ⟨HB.out.trans (hb2.mono (by have := HS.out; omega))⟩
 have HD' := Aside0.mk (HD.out.below hb2)
 have HV' := Aside0.mk (HV.out.below hb2)
 have HS' := Aside0.mk (Nat.le_trans HS.out hb2.size)
 clear f0 f1 f2 f3 f4 f5 q0 q1 q2 q3 q4 q5 q6 q7 r0 r1 r2 r3 r4 r5 zf0 zr0 zf1 zr1 zf2 zr2 zf3 zr3 zf4 zr4 zf5 zr5 hl0 hl1 hl2
 clear HB HD HV HS hb2
 have HB := HB'
 have HD := HD'
 have HV := HV'
 have HS := HS'
 clear HB' HD' HV' HS'
 obtain ⟨f0, f1, f2, f3, f4, f5⟩ := boxR_cells HD.out.f
 obtain ⟨q0, q1, q2, q3, q4, q5, q6, q7⟩ := box_cells HD.out.c
 obtain ⟨r0, r1, r2, r3, r4, r5⟩ := boxR_cells HD.out.r
 have zf0 := blk_frozen HD.out.f 0
 have zf1 := blk_frozen HD.out.f 1
 have zf2 := blk_frozen HD.out.f 2
 have zf3 := blk_frozen HD.out.f 3
 have zf4 := blk_frozen HD.out.f 4
 have zf5 := blk_frozen HD.out.f 5
 have zr0 := blk_frozen HD.out.r 0
 have zr1 := blk_frozen HD.out.r 1
 have zr2 := blk_frozen HD.out.r 2
 have zr3 := blk_frozen HD.out.r 3
 have zr4 := blk_frozen HD.out.r 4
 have zr5 := blk_frozen HD.out.r 5
 have hl0 : b < w2.heap.size := by have := HS.out; omega
 have hl1 : b + 1 < w2.heap.size := by have := HS.out; omega
 have hl2 : b + 1 + 1 < w2.heap.size := by have := HS.out; omega
 skip
 have hneb : ∀ k, ok3 ok b k ∧ k < S1 → k ≠ b := fun k hk => by rcases hk.1 with ⟨_, q⟩ | q <;> omega
 have HV2 := Aside0.mk (HV.out.set b 0 (.slice (some ⟨g, 0, none⟩) R.N.length cap) hneb)
 have HCD := Aside0.mk (V_C HV2.out.vs.2.2.2.1)
 clear hneb
 go_wp2_with (at_builtin; refine wp_copy Kd.bool KM_B rfl _ _ 46 4 (.bool false) 1 rfl Try.underlying46 info4 rfl (by decide) (by decide) w2.heap.size (by simp) A3 _ _ R.Dead rfl rfl HCD.out HLD.out ?_)
 intro v2 w3 hRD hb3
 obtain ⟨gd, capd, rfl, hgdl, hgdb, _⟩ := R_form hRD (by omega)
 have hsz : (w2.setCell ⟨b, 0, none⟩ (.slice (some ⟨g, 0, none⟩) R.N.length cap)).heap.size = w2.heap.size := by simp
 have hgb : g ≠ b := by have := HGB.out; have := HS1.out; have := HSB.out; omega
 have hgb1 : g ≠ b + 1 := by have := HGB.out; have := HSB.out; omega
 have hgb2 : g ≠ b + 1 + 1 := by have := HGB.out; have := HSB.out; omega
 have hgdg : gd ≠ g := by have := HGL.out; omega
 have hgdb' : gd ≠ b := by have := HS.out; omega
 have hgdb1 : gd ≠ b + 1 := by have := HS.out; omega
 have hgdb2 : gd ≠ b + 1 + 1 := by have := HS.out; omega
 have hgb3 := hgb.symm
 have hgb4 := hgb1.symm
 have hgb5 := hgb2.symm
 have hgdb3 := hgdb'.symm
 have hgdb4 := hgdb1.symm
 have hgdb5 := hgdb2.symm
 have hgdg' := hgdg.symm
 have hneb : ∀ k, ok3 ok b k ∧ k < S1 → k ≠ b := fun k hk => by rcases hk.1 with ⟨_, q⟩ | q <;> omega
 have HR2 := Aside0.mk (Kd.R_below (Kd.R_far (p := ⟨b, 0, none⟩) HR.out (fun k hk => by have h1 : w1.heap.size ≤ k := hk; have := HS1.out; have := HSB.out; show k ≠ b; omega) (.slice (some ⟨g, 0, none⟩) R.N.length cap)) (hsz ▸ hb3))
 have HRD := Aside0.mk hRD
 have HV3 := Aside0.mk (HV2.out.below (hsz ▸ hb3))
 have HB3 : Aside0 (Below b w w3) := ⟨(HB.out.setCell (Nat.le_refl _) _).trans (hb3.mono (by have := HS.out; omega))⟩
 have HD3 : Aside0 (DoAt b #[.slice (some ⟨g, 0, none⟩) R.N.length cap, .slice A1 R.L.length c1, .slice A2 R.Cov.length c2, .slice A3 R.Dead.length c3, .slice A4 R.Above.length c4, .slice A5 R.Firsts.length c5] #[.int .i64 6, .int .i64 x1, .int .i64 (t2 : Int), .string x3, .string x4, .int .i64 1, .int .i64 x6, .int .i64 x7] w3) := ⟨(HD.out.set 0 (.slice (some ⟨g, 0, none⟩) R.N.length cap)).below (hsz ▸ hb3)⟩
 have HS3 : Aside0 (b + 3 ≤ w3.heap.size) := ⟨by have := HS.out; have := hb3.size; omega⟩
 have HGL3 : Aside0 (g < w3.heap.size) := ⟨by have := HGL.out; have := hb3.size; omega⟩
 clear f0 f1 f2 f3 f4 f5 q0 q1 q2 q3 q4 q5 q6 q7 r0 r1 r2 r3 r4 r5 zf0 zr0 zf1 zr1 zf2 zr2 zf3 zr3 zf4 zr4 zf5 zr5 hl0 hl1 hl2
 clear HB HD HS HV HV2 HR HCD hb3 hRD hsz hneb
 have HB := HB3
 have HD := HD3
 have HS := HS3
 have HV := HV3
 have HR := HR2
 clear HB3 HD3 HS3 HV3 HR2
 obtain ⟨f0, f1, f2, f3, f4, f5⟩ := boxR_cells HD.out.f
 obtain ⟨q0, q1, q2, q3, q4, q5, q6, q7⟩ := box_cells HD.out.c
 obtain ⟨r0, r1, r2, r3, r4, r5⟩ := boxR_cells HD.out.r
 have zf0 := blk_frozen HD.out.f 0
 have zf1 := blk_frozen HD.out.f 1
 have zf2 := blk_frozen HD.out.f 2
 have zf3 := blk_frozen HD.out.f 3
 have zf4 := blk_frozen HD.out.f 4
 have zf5 := blk_frozen HD.out.f 5
 have zr0 := blk_frozen HD.out.r 0
 have zr1 := blk_frozen HD.out.r 1
 have zr2 := blk_frozen HD.out.r 2
 have zr3 := blk_frozen HD.out.r 3
 have zr4 := blk_frozen HD.out.r 4
 have zr5 := blk_frozen HD.out.r 5
 have hl0 : b < w3.heap.size := by have := HS.out; omega
 have hl1 : b + 1 < w3.heap.size := by have := HS.out; omega
 have hl2 : b + 1 + 1 < w3.heap.size := by have := HS.out; omega
 go_wp2_with fail
 obtain ⟨w4, hw4⟩ : ∃ w4, w4 = w3.setCell ⟨b, 3, none⟩ (.slice (some ⟨gd, 0, none⟩) R.Dead.length capd) := ⟨_, rfl⟩
 rw [← hw4]
 have hneb : ∀ k, ok3 ok b k ∧ k < S1 → k ≠ b := fun k hk => by rcases hk.1 with ⟨_, q⟩ | q <;> omega
 have HD4 : Aside0 (DoAt b #[.slice (some ⟨g, 0, none⟩) R.N.length cap, .slice A1 R.L.length c1, .slice A2 R.Cov.length c2, .slice (some ⟨gd, 0, none⟩) R.Dead.length capd, .slice A4 R.Above.length c4, .slice A5 R.Firsts.length c5] #[.int .i64 6, .int .i64 x1, .int .i64 (t2 : Int), .string x3, .string x4, .int .i64 1, .int .i64 x6, .int .i64 x7] w4) := ⟨by rw [hw4]; exact HD.out.set 3 _⟩
 have HV4 : Aside0 (RefV R w4 _ _) := ⟨by rw [hw4]; exact HV.out.set b 3 (.slice (some ⟨gd, 0, none⟩) R.Dead.length capd) hneb⟩
 have HR4 : Aside0 (kN.R 36 w4 _ _ _ R.N) := ⟨by rw [hw4]; exact Kd.R_far (p := ⟨b, 3, none⟩) HR.out (fun k hk => by have h1 : w1.heap.size ≤ k := hk; have := HS1.out; have := HSB.out; show k ≠ b; omega) (.slice (some ⟨gd, 0, none⟩) R.Dead.length capd)⟩
 have HRD4 : Aside0 (Kd.bool.R 4 w4 _ _ _ R.Dead) := ⟨by rw [hw4]; exact Kd.R_far (p := ⟨b, 3, none⟩) HRD.out (fun k hk => by have h1 : w2.heap.size ≤ k := hk; have := hgdb; have := HGL.out; have := HSB.out; have := HGB.out; show k ≠ b; omega) (.slice (some ⟨gd, 0, none⟩) R.Dead.length capd)⟩
 have HB4 : Aside0 (Below b w w4) := ⟨by rw [hw4]; exact HB.out.setCell (Nat.le_refl _) _⟩
 have HS4 : Aside0 (b + 3 ≤ w4.heap.size) := ⟨by rw [hw4]; simpa using HS.out⟩
 clear f0 f1 f2 f3 f4 f5 q0 q1 q2 q3 q4 q5 q6 q7 r0 r1 r2 r3 r4 r5 zf0 zr0 zf1 zr1 zf2 zr2 zf3 zr3 zf4 zr4 zf5 zr5 hl0 hl1 hl2
 clear HB HD HS HV HR HRD hw4 hneb
 have HB := HB4
 have HD := HD4
 have HS := HS4
 have HV := HV4
 have HR := HR4
 have HRD := HRD4
 clear HB4 HD4 HS4 HV4 HR4 HRD4
 have HRg := Aside0.mk (Kd.R_reok (ok := fun k => k = g) rfl HR.out (fun k hk => by simpa [Value.ownBlock] using (show some k = (Value.slice (some ⟨g, 0, none⟩) R.N.length cap).ownBlock from hk.symm)))
 obtain ⟨f0, f1, f2, f3, f4, f5⟩ := boxR_cells HD.out.f
 obtain ⟨q0, q1, q2, q3, q4, q5, q6, q7⟩ := box_cells HD.out.c
 obtain ⟨r0, r1, r2, r3, r4, r5⟩ := boxR_cells HD.out.r
 have zf0 := blk_frozen HD.out.f 0
 have zf1 := blk_frozen HD.out.f 1
 have zf2 := blk_frozen HD.out.f 2
 have zf3 := blk_frozen HD.out.f 3
 have zf4 := blk_frozen HD.out.f 4
 have zf5 := blk_frozen HD.out.f 5
 have zr0 := blk_frozen HD.out.r 0
 have zr1 := blk_frozen HD.out.r 1
 have zr2 := blk_frozen HD.out.r 2
 have zr3 := blk_frozen HD.out.r 3
 have zr4 := blk_frozen HD.out.r 4
 have zr5 := blk_frozen HD.out.r 5
 have hl0 : b < w4.heap.size := by have := HS.out; omega
 have hl1 : b + 1 < w4.heap.size := by have := HS.out; omega
 have hl2 : b + 1 + 1 < w4.heap.size := by have := HS.out; omega
 obtain ⟨ce, hcl, hM, hcc, hfr⟩ := Kd.R_elem HR.out z36 (t2 : Int) n1 n2
 obtain rfl := k36_openM hM
 have k10 := hcc 10 _ rfl
 have z10 := hfr 10
 simp only [show kN.sz = 13 from rfl, Int.toNat_natCast] at k10 z10
 have HCC := Aside0.mk hcc
 clear hcl hM hcc hfr
 refine wp_region_still_tail 10 (by kernel_rfl) (by kernel_rfl) ?_
 simp only [List.take_succ_cons, List.take_zero, List.drop_succ_cons, List.drop_zero]
 repeat still_step
 refine wpStill_nil ?_
 change wpList _ _ _ _ _ w4.drew
 go_wp2
 have hne2 : ∀ k, ((ok3 ok b k ∧ k < S1) ∨ S1 ≤ k) → k ≠ b + 1 + 1 := fun k hk => by have := HSB.out; rcases hk with ⟨⟨_, hk⟩ | hk, _⟩ | hk <;> omega
 have hfin : ∀ k, ((ok3 ok b k ∧ k < S1) ∨ S1 ≤ k) → ok k ∨ b ≤ k := fun k hk => by
  have := HSB.out
  rcases hk with ⟨⟨q, hk⟩ | hk, _⟩ | hk
  ·exact Or.inl q
  ·exact Or.inr (by omega)
  ·exact Or.inr (by omega)
 have hseg := Kd.R_seg HR.out (t2 : Int) n1 n2 (seg := [(.int .i64 x7)]) (j := 10) (x' := (⟨(R.n (t2 : Int)).f0, (R.n (t2 : Int)).f1, (R.n (t2 : Int)).f2, (R.n (t2 : Int)).f3, (R.n (t2 : Int)).f4, (R.n (t2 : Int)).f5, (R.n (t2 : Int)).f6, (R.n (t2 : Int)).f7, (R.n (t2 : Int)).f8, ⟨(R.n (t2 : Int)).f9.f0, x7, (R.n (t2 : Int)).f9.f2⟩, (R.n (t2 : Int)).f10⟩ : Node)) (okp := fun k => w1.heap.size ≤ k ∧ k ≠ g) rfl HCC.out (show 10 + 1 ≤ 13 from by decide) (k36_mkM _ _ _ _) (fun _ hk => hk)
 have HX : RefV ⟨R.N.set (t2 : Int).toNat ((⟨(R.n (t2 : Int)).f0, (R.n (t2 : Int)).f1, (R.n (t2 : Int)).f2, (R.n (t2 : Int)).f3, (R.n (t2 : Int)).f4, (R.n (t2 : Int)).f5, (R.n (t2 : Int)).f6, (R.n (t2 : Int)).f7, (R.n (t2 : Int)).f8, ⟨(R.n (t2 : Int)).f9.f0, x7, (R.n (t2 : Int)).f9.f2⟩, (R.n (t2 : Int)).f10⟩ : Node)), R.L, R.Cov, R.Dead, R.Above, R.Firsts⟩ (w4.setCell ⟨g, t2 * 13 + 10, none⟩ (.int .i64 x7)) (fun k => (ok3 ok b k ∧ k < S1) ∨ S1 ≤ k) #[.slice (some ⟨g, 0, none⟩) R.N.length cap, .slice A1 R.L.length c1, .slice A2 R.Cov.length c2, .slice (some ⟨gd, 0, none⟩) R.Dead.length capd, .slice A4 R.Above.length c4, .slice A5 R.Firsts.length c5] := by
  obtain ⟨y0, y1, y2, y3, y4, y5⟩ := RefV.vs (RefV.set HV.out g (t2 * 13 + 10) (.int .i64 x7) (fun k hk => by have := HGB.out; omega))
  have yN := Kd.R_V (base' := 0) hseg.1
  have yD := Kd.R_V (base' := 0) (Kd.R_far (p := ⟨g, t2 * 13 + 10, none⟩) HRD.out (fun k hk => by have h1 : w2.heap.size ≤ k := hk; have := HGL.out; show k ≠ g; omega) (.int .i64 x7))
  exact ⟨_, _, _, _, _, _, rfl, V_re yN (fun k hk => Or.inr (by have h1 : w1.heap.size ≤ k := hk; have := HS1.out; omega)), V_re y1 (fun _ hk => Or.inl hk), V_re y2 (fun _ hk => Or.inl hk), V_re yD (fun k hk => Or.inr (by have h1 : w2.heap.size ≤ k := hk; have := HGL.out; have := HGB.out; omega)), V_re y4 (fun _ hk => Or.inl hk), V_re y5 (fun _ hk => Or.inl hk)⟩
 have HBX : Below b w (w4.setCell ⟨g, t2 * 13 + 10, none⟩ (.int .i64 x7)) := (Below.setCell HB.out (by have := HGB.out; have := HSB.out; show b ≤ g; omega) _)
 refine bodyPost_ret (v := .tuple #[.agg #[.slice (some ⟨g, 0, none⟩) R.N.length cap, .slice A1 R.L.length c1, .slice A2 R.Cov.length c2, .slice (some ⟨gd, 0, none⟩) R.Dead.length capd, .slice A4 R.Above.length c4, .slice A5 R.Firsts.length c5], .int .i64 0, .int .i64 0]) (by simp [results, Try.results19, go_sem, r0, r1, r2, r3, r4, r5, hgb2, hgb5]) rfl ⟨_, rfl, ?_, ?_⟩
 ·rw [← Hb.out]
  exact (((((((HX.set _ 0 _ hne2).set _ 1 _ hne2).set _ 2 _ hne2).set _ 3 _ hne2).set _ 4 _ hne2).set _ 5 _ hne2).below (below_drew1 (Below.refl _ _))).mono hfin
 ·have hge : b ≤ b + 1 + 1 := by omega
  rw [← Hb.out]
  exact below_drew1 ((((((HBX.setCell hge _).setCell hge _).setCell hge _).setCell hge _).setCell hge _).setCell hge _)
set_option maxHeartbeats 8000000 in
set_option maxRecDepth 100000 in
theorem rdo_time2 (R : Ref) (c : Chg) (w : World) (vs : Array Value) (m : Nat) (ok : Nat → Prop) (h : RefV R w ok vs) (hO : R.Ok m) (hm : m ≤ 1000000) (s3 : c.f3.size ≤ 1000000) (s4 : c.f4.size ≤ 1000000) (hk : c.f0 = 6) (hE : R.wrongE c = 0) (hin : 0 ≤ c.f2 ∧ c.f2 < R.N.length) (hj : c.f5 = 2) :
  Calls Try.prog 19 #[.agg vs, .agg (encC c).toArray] w fun e w' => ∃ vs', e = .returned (.tuple #[.agg vs', .int .i64 0, .int .i64 0]) ∧ RefV (⟨R.N.set c.f2.toNat ((⟨(R.n c.f2).f0, (R.n c.f2).f1, (R.n c.f2).f2, (R.n c.f2).f3, (R.n c.f2).f4, (R.n c.f2).f5, (R.n c.f2).f6, (R.n c.f2).f7, (R.n c.f2).f8, ⟨(R.n c.f2).f9.f0, (R.n c.f2).f9.f1, c.f7⟩, (R.n c.f2).f10⟩ : Node)), R.L, R.Cov, R.Dead, R.Above, R.Firsts⟩) w' (fun k => ok k ∨ w.heap.size ≤ k) vs' ∧ Below w.heap.size w w' := by
 have hW := fun W (hB : Below w.heap.size w W) => refWrong_calls R c W vs m (h.below hB).at hO hm s3 s4
 rw [hE] at hW
 obtain ⟨x0, x1, x2, x3, x4, x5, x6, x7⟩ := c
 simp only at *
 subst hk
 subst hj
 obtain ⟨t2, rfl⟩ : ∃ t : Nat, x2 = t := ⟨x2.toNat, by omega⟩
 have n1 : (0 : Int) ≤ (t2 : Int) := hin.1
 have n2 : (t2 : Int) < (R.N.length : Int) := hin.2
 have n3 : (t2 : Int) < (R.Dead.length : Int) := by rw [hO.Dead]; exact n2
 clear hin hE
 have hV := h.bound
 obtain ⟨A0, c0, A1, c1, A2, c2, A3, c3, A4, c4, A5, c5, rfl⟩ := hV.form
 clear h
 have HW := Aside0.mk hW
 have HV0 := Aside0.mk hV
 have HO := Aside0.mk hO
 have HM := Aside0.mk hm
 clear hW hV hO hm
 obtain ⟨b, hb⟩ : ∃ b, b = w.heap.size := ⟨_, rfl⟩
 obtain ⟨W0, hW0⟩ : ∃ W0 : World, W0 = ((w.alloc (.cells #[.slice A0 R.N.length c0, .slice A1 R.L.length c1, .slice A2 R.Cov.length c2, .slice A3 R.Dead.length c3, .slice A4 R.Above.length c4, .slice A5 R.Firsts.length c5] TR)).alloc (.cells #[.int .i64 6, .int .i64 x1, .int .i64 (t2 : Int), .string x3, .string x4, .int .i64 2, .int .i64 x6, .int .i64 x7] TC)).alloc (.cells #[.slice none 0 0, .slice none 0 0, .slice none 0 0, .slice none 0 0, .slice none 0 0, .slice none 0 0] TR) := ⟨_, rfl⟩
 have hB0 : Below b w W0 := by rw [hW0, hb]; exact (((Below.refl _ w).alloc (Nat.le_refl _) _).alloc (by simp) _).alloc (by simp; omega) _
 have hs0 : W0.heap.size = b + 3 := by rw [hW0, hb]; simp
 have hd : DoAt b #[.slice A0 R.N.length c0, .slice A1 R.L.length c1, .slice A2 R.Cov.length c2, .slice A3 R.Dead.length c3, .slice A4 R.Above.length c4, .slice A5 R.Firsts.length c5] #[.int .i64 6, .int .i64 x1, .int .i64 (t2 : Int), .string x3, .string x4, .int .i64 2, .int .i64 x6, .int .i64 x7] W0 := by
  rw [hW0, hb]
  have e0 := heap_alloc_new w (.cells #[.slice A0 R.N.length c0, .slice A1 R.L.length c1, .slice A2 R.Cov.length c2, .slice A3 R.Dead.length c3, .slice A4 R.Above.length c4, .slice A5 R.Firsts.length c5] TR)
  have e1 := heap_alloc_new (w.alloc (.cells #[.slice A0 R.N.length c0, .slice A1 R.L.length c1, .slice A2 R.Cov.length c2, .slice A3 R.Dead.length c3, .slice A4 R.Above.length c4, .slice A5 R.Firsts.length c5] TR)) (.cells #[.int .i64 6, .int .i64 x1, .int .i64 (t2 : Int), .string x3, .string x4, .int .i64 2, .int .i64 x6, .int .i64 x7] TC)
  have e2 := heap_alloc_new ((w.alloc (.cells #[.slice A0 R.N.length c0, .slice A1 R.L.length c1, .slice A2 R.Cov.length c2, .slice A3 R.Dead.length c3, .slice A4 R.Above.length c4, .slice A5 R.Firsts.length c5] TR)).alloc (.cells #[.int .i64 6, .int .i64 x1, .int .i64 (t2 : Int), .string x3, .string x4, .int .i64 2, .int .i64 x6, .int .i64 x7] TC)) (.cells #[.slice none 0 0, .slice none 0 0, .slice none 0 0, .slice none 0 0, .slice none 0 0, .slice none 0 0] TR)
  simp only [World.size_alloc] at e1 e2
  exact ⟨(Below.heap_alloc _ _ _ (by simp; omega)).trans ((Below.heap_alloc _ _ _ (by simp)).trans e0), (Below.heap_alloc _ _ _ (by simp)).trans e1, e2⟩
 have HV := Aside0.mk ((HV0.out.below (hb ▸ hB0)).mono (ok' := ok3 ok b) (fun k hk => Or.inl (hb ▸ hk)))
 have HB := Aside0.mk hB0
 have HD := Aside0.mk hd
 have HS := Aside0.mk (show b + 3 ≤ W0.heap.size by omega)
 have Hb := Aside0.mk hb
 unfold encC
 obtain ⟨f0, f1, f2, f3, f4, f5⟩ := boxR_cells HD.out.f
 obtain ⟨q0, q1, q2, q3, q4, q5, q6, q7⟩ := box_cells HD.out.c
 obtain ⟨r0, r1, r2, r3, r4, r5⟩ := boxR_cells HD.out.r
 have zf0 := blk_frozen HD.out.f 0
 have zf1 := blk_frozen HD.out.f 1
 have zf2 := blk_frozen HD.out.f 2
 have zf3 := blk_frozen HD.out.f 3
 have zf4 := blk_frozen HD.out.f 4
 have zf5 := blk_frozen HD.out.f 5
 have zr0 := blk_frozen HD.out.r 0
 have zr1 := blk_frozen HD.out.r 1
 have zr2 := blk_frozen HD.out.r 2
 have zr3 := blk_frozen HD.out.r 3
 have zr4 := blk_frozen HD.out.r 4
 have zr5 := blk_frozen HD.out.r 5
 have hl0 : b < W0.heap.size := by have := HS.out; omega
 have hl1 : b + 1 < W0.heap.size := by have := HS.out; omega
 have hl2 : b + 1 + 1 < W0.heap.size := by have := HS.out; omega
 clear hB0 hd hs0
 go_enter Try.func19, Try.ntmps19
 go_wp2_with fail
 rw [← hW0, ← hb]
 clear hW0 hb
 refine (HW.out W0 (Hb.out ▸ HB.out)).mono ?_
 rintro e w1 ⟨rfl, hb1⟩
 have HB' : Aside0 (Below b w w1) := ⟨HB.out.trans (hb1.mono (by have := HS.out; omega))⟩
 have HD' := Aside0.mk (HD.out.below hb1)
 have HV' := Aside0.mk (HV.out.below hb1)
 have HS' := Aside0.mk (Nat.le_trans HS.out hb1.size)
 clear f0 f1 f2 f3 f4 f5 q0 q1 q2 q3 q4 q5 q6 q7 r0 r1 r2 r3 r4 r5 zf0 zr0 zf1 zr1 zf2 zr2 zf3 zr3 zf4 zr4 zf5 zr5 hl0 hl1 hl2
 clear HB HD HV HS hb1
 have HB := HB'
 have HD := HD'
 have HV := HV'
 have HS := HS'
 clear HB' HD' HV' HS'
 obtain ⟨f0, f1, f2, f3, f4, f5⟩ := boxR_cells HD.out.f
 obtain ⟨q0, q1, q2, q3, q4, q5, q6, q7⟩ := box_cells HD.out.c
 obtain ⟨r0, r1, r2, r3, r4, r5⟩ := boxR_cells HD.out.r
 have zf0 := blk_frozen HD.out.f 0
 have zf1 := blk_frozen HD.out.f 1
 have zf2 := blk_frozen HD.out.f 2
 have zf3 := blk_frozen HD.out.f 3
 have zf4 := blk_frozen HD.out.f 4
 have zf5 := blk_frozen HD.out.f 5
 have zr0 := blk_frozen HD.out.r 0
 have zr1 := blk_frozen HD.out.r 1
 have zr2 := blk_frozen HD.out.r 2
 have zr3 := blk_frozen HD.out.r 3
 have zr4 := blk_frozen HD.out.r 4
 have zr5 := blk_frozen HD.out.r 5
 have hl0 : b < w1.heap.size := by have := HS.out; omega
 have hl1 : b + 1 < w1.heap.size := by have := HS.out; omega
 have hl2 : b + 1 + 1 < w1.heap.size := by have := HS.out; omega
 obtain ⟨S1, hS1⟩ : ∃ S, S = w1.heap.size := ⟨_, rfl⟩
 have HV1 := Aside0.mk HV.out.bound
 rw [← hS1] at HV1
 clear HV
 have HV := HV1
 clear HV1
 have HS1 := Aside0.mk hS1
 have HSB := Aside0.mk (show b + 3 ≤ S1 by rw [hS1]; exact HS.out)
 clear hS1
 have HCN := Aside0.mk (V_C HV.out.vs.1)
 have hlN : R.N.length * 112 ≤ 140737488355328 := by have := HO.out.N; omega
 have hlD : R.Dead.length * 1 ≤ 140737488355328 := by have := HO.out.N; have := HO.out.Dead; omega
 have HLN := Aside0.mk hlN
 have HLD := Aside0.mk hlD
 clear hlN hlD
 go_wp2_with (at_builtin; refine wp_copy kN KM_N rfl _ _ 43 36 (.agg #[.int .i64 0, .int .i64 0, .int .i64 0, .int .i64 0, .int .i64 0, .int .i64 0, .int .i64 0, .int .i64 0, .int .i64 0, .int .i64 0, .int .i64 0, .int .i64 0, .string ⟨#[]⟩]) 112 rfl Try.underlying43 info36 rfl (by decide) (by decide) w1.heap.size rfl A0 _ _ R.N rfl rfl HCN.out HLN.out ?_)
 intro v1 w2 hR hb2
 obtain ⟨g, cap, rfl, hgl, hgb, hgs⟩ := R_form hR (by omega)
 rw [← HS1.out] at hgb hgs
 have HR := Aside0.mk hR
 have HGL := Aside0.mk hgl
 have HGB := Aside0.mk hgb
 clear hR hgl hgb hgs HCN
 have HB' : Aside0 (Below b w w2) := ⟨HB.out.trans (hb2.mono (by have := HS.out; omega))⟩
 have HD' := Aside0.mk (HD.out.below hb2)
 have HV' := Aside0.mk (HV.out.below hb2)
 have HS' := Aside0.mk (Nat.le_trans HS.out hb2.size)
 clear f0 f1 f2 f3 f4 f5 q0 q1 q2 q3 q4 q5 q6 q7 r0 r1 r2 r3 r4 r5 zf0 zr0 zf1 zr1 zf2 zr2 zf3 zr3 zf4 zr4 zf5 zr5 hl0 hl1 hl2
 clear HB HD HV HS hb2
 have HB := HB'
 have HD := HD'
 have HV := HV'
 have HS := HS'
 clear HB' HD' HV' HS'
 obtain ⟨f0, f1, f2, f3, f4, f5⟩ := boxR_cells HD.out.f
 obtain ⟨q0, q1, q2, q3, q4, q5, q6, q7⟩ := box_cells HD.out.c
 obtain ⟨r0, r1, r2, r3, r4, r5⟩ := boxR_cells HD.out.r
 have zf0 := blk_frozen HD.out.f 0
 have zf1 := blk_frozen HD.out.f 1
 have zf2 := blk_frozen HD.out.f 2
 have zf3 := blk_frozen HD.out.f 3
 have zf4 := blk_frozen HD.out.f 4
 have zf5 := blk_frozen HD.out.f 5
 have zr0 := blk_frozen HD.out.r 0
 have zr1 := blk_frozen HD.out.r 1
 have zr2 := blk_frozen HD.out.r 2
 have zr3 := blk_frozen HD.out.r 3
 have zr4 := blk_frozen HD.out.r 4
 have zr5 := blk_frozen HD.out.r 5
 have hl0 : b < w2.heap.size := by have := HS.out; omega
 have hl1 : b + 1 < w2.heap.size := by have := HS.out; omega
 have hl2 : b + 1 + 1 < w2.heap.size := by have := HS.out; omega
 skip
 have hneb : ∀ k, ok3 ok b k ∧ k < S1 → k ≠ b := fun k hk => by rcases hk.1 with ⟨_, q⟩ | q <;> omega
 have HV2 := Aside0.mk (HV.out.set b 0 (.slice (some ⟨g, 0, none⟩) R.N.length cap) hneb)
 have HCD := Aside0.mk (V_C HV2.out.vs.2.2.2.1)
 clear hneb
 go_wp2_with (at_builtin; refine wp_copy Kd.bool KM_B rfl _ _ 46 4 (.bool false) 1 rfl Try.underlying46 info4 rfl (by decide) (by decide) w2.heap.size (by simp) A3 _ _ R.Dead rfl rfl HCD.out HLD.out ?_)
 intro v2 w3 hRD hb3
 obtain ⟨gd, capd, rfl, hgdl, hgdb, _⟩ := R_form hRD (by omega)
 have hsz : (w2.setCell ⟨b, 0, none⟩ (.slice (some ⟨g, 0, none⟩) R.N.length cap)).heap.size = w2.heap.size := by simp
 have hgb : g ≠ b := by have := HGB.out; have := HS1.out; have := HSB.out; omega
 have hgb1 : g ≠ b + 1 := by have := HGB.out; have := HSB.out; omega
 have hgb2 : g ≠ b + 1 + 1 := by have := HGB.out; have := HSB.out; omega
 have hgdg : gd ≠ g := by have := HGL.out; omega
 have hgdb' : gd ≠ b := by have := HS.out; omega
 have hgdb1 : gd ≠ b + 1 := by have := HS.out; omega
 have hgdb2 : gd ≠ b + 1 + 1 := by have := HS.out; omega
 have hgb3 := hgb.symm
 have hgb4 := hgb1.symm
 have hgb5 := hgb2.symm
 have hgdb3 := hgdb'.symm
 have hgdb4 := hgdb1.symm
 have hgdb5 := hgdb2.symm
 have hgdg' := hgdg.symm
 have hneb : ∀ k, ok3 ok b k ∧ k < S1 → k ≠ b := fun k hk => by rcases hk.1 with ⟨_, q⟩ | q <;> omega
 have HR2 := Aside0.mk (Kd.R_below (Kd.R_far (p := ⟨b, 0, none⟩) HR.out (fun k hk => by have h1 : w1.heap.size ≤ k := hk; have := HS1.out; have := HSB.out; show k ≠ b; omega) (.slice (some ⟨g, 0, none⟩) R.N.length cap)) (hsz ▸ hb3))
 have HRD := Aside0.mk hRD
 have HV3 := Aside0.mk (HV2.out.below (hsz ▸ hb3))
 have HB3 : Aside0 (Below b w w3) := ⟨(HB.out.setCell (Nat.le_refl _) _).trans (hb3.mono (by have := HS.out; omega))⟩
 have HD3 : Aside0 (DoAt b #[.slice (some ⟨g, 0, none⟩) R.N.length cap, .slice A1 R.L.length c1, .slice A2 R.Cov.length c2, .slice A3 R.Dead.length c3, .slice A4 R.Above.length c4, .slice A5 R.Firsts.length c5] #[.int .i64 6, .int .i64 x1, .int .i64 (t2 : Int), .string x3, .string x4, .int .i64 2, .int .i64 x6, .int .i64 x7] w3) := ⟨(HD.out.set 0 (.slice (some ⟨g, 0, none⟩) R.N.length cap)).below (hsz ▸ hb3)⟩
 have HS3 : Aside0 (b + 3 ≤ w3.heap.size) := ⟨by have := HS.out; have := hb3.size; omega⟩
 have HGL3 : Aside0 (g < w3.heap.size) := ⟨by have := HGL.out; have := hb3.size; omega⟩
 clear f0 f1 f2 f3 f4 f5 q0 q1 q2 q3 q4 q5 q6 q7 r0 r1 r2 r3 r4 r5 zf0 zr0 zf1 zr1 zf2 zr2 zf3 zr3 zf4 zr4 zf5 zr5 hl0 hl1 hl2
 clear HB HD HS HV HV2 HR HCD hb3 hRD hsz hneb
 have HB := HB3
 have HD := HD3
 have HS := HS3
 have HV := HV3
 have HR := HR2
 clear HB3 HD3 HS3 HV3 HR2
 obtain ⟨f0, f1, f2, f3, f4, f5⟩ := boxR_cells HD.out.f
 obtain ⟨q0, q1, q2, q3, q4, q5, q6, q7⟩ := box_cells HD.out.c
 obtain ⟨r0, r1, r2, r3, r4, r5⟩ := boxR_cells HD.out.r
 have zf0 := blk_frozen HD.out.f 0
 have zf1 := blk_frozen HD.out.f 1
 have zf2 := blk_frozen HD.out.f 2
 have zf3 := blk_frozen HD.out.f 3
 have zf4 := blk_frozen HD.out.f 4
 have zf5 := blk_frozen HD.out.f 5
 have zr0 := blk_frozen HD.out.r 0
 have zr1 := blk_frozen HD.out.r 1
 have zr2 := blk_frozen HD.out.r 2
 have zr3 := blk_frozen HD.out.r 3
 have zr4 := blk_frozen HD.out.r 4
 have zr5 := blk_frozen HD.out.r 5
 have hl0 : b < w3.heap.size := by have := HS.out; omega
 have hl1 : b + 1 < w3.heap.size := by have := HS.out; omega
 have hl2 : b + 1 + 1 < w3.heap.size := by have := HS.out; omega
 go_wp2_with fail
 obtain ⟨w4, hw4⟩ : ∃ w4, w4 = w3.setCell ⟨b, 3, none⟩ (.slice (some ⟨gd, 0, none⟩) R.Dead.length capd) := ⟨_, rfl⟩
 rw [← hw4]
 have hneb : ∀ k, ok3 ok b k ∧ k < S1 → k ≠ b := fun k hk => by rcases hk.1 with ⟨_, q⟩ | q <;> omega
 have HD4 : Aside0 (DoAt b #[.slice (some ⟨g, 0, none⟩) R.N.length cap, .slice A1 R.L.length c1, .slice A2 R.Cov.length c2, .slice (some ⟨gd, 0, none⟩) R.Dead.length capd, .slice A4 R.Above.length c4, .slice A5 R.Firsts.length c5] #[.int .i64 6, .int .i64 x1, .int .i64 (t2 : Int), .string x3, .string x4, .int .i64 2, .int .i64 x6, .int .i64 x7] w4) := ⟨by rw [hw4]; exact HD.out.set 3 _⟩
 have HV4 : Aside0 (RefV R w4 _ _) := ⟨by rw [hw4]; exact HV.out.set b 3 (.slice (some ⟨gd, 0, none⟩) R.Dead.length capd) hneb⟩
 have HR4 : Aside0 (kN.R 36 w4 _ _ _ R.N) := ⟨by rw [hw4]; exact Kd.R_far (p := ⟨b, 3, none⟩) HR.out (fun k hk => by have h1 : w1.heap.size ≤ k := hk; have := HS1.out; have := HSB.out; show k ≠ b; omega) (.slice (some ⟨gd, 0, none⟩) R.Dead.length capd)⟩
 have HRD4 : Aside0 (Kd.bool.R 4 w4 _ _ _ R.Dead) := ⟨by rw [hw4]; exact Kd.R_far (p := ⟨b, 3, none⟩) HRD.out (fun k hk => by have h1 : w2.heap.size ≤ k := hk; have := hgdb; have := HGL.out; have := HSB.out; have := HGB.out; show k ≠ b; omega) (.slice (some ⟨gd, 0, none⟩) R.Dead.length capd)⟩
 have HB4 : Aside0 (Below b w w4) := ⟨by rw [hw4]; exact HB.out.setCell (Nat.le_refl _) _⟩
 have HS4 : Aside0 (b + 3 ≤ w4.heap.size) := ⟨by rw [hw4]; simpa using HS.out⟩
 clear f0 f1 f2 f3 f4 f5 q0 q1 q2 q3 q4 q5 q6 q7 r0 r1 r2 r3 r4 r5 zf0 zr0 zf1 zr1 zf2 zr2 zf3 zr3 zf4 zr4 zf5 zr5 hl0 hl1 hl2
 clear HB HD HS HV HR HRD hw4 hneb
 have HB := HB4
 have HD := HD4
 have HS := HS4
 have HV := HV4
 have HR := HR4
 have HRD := HRD4
 clear HB4 HD4 HS4 HV4 HR4 HRD4
 have HRg := Aside0.mk (Kd.R_reok (ok := fun k => k = g) rfl HR.out (fun k hk => by simpa [Value.ownBlock] using (show some k = (Value.slice (some ⟨g, 0, none⟩) R.N.length cap).ownBlock from hk.symm)))
 obtain ⟨f0, f1, f2, f3, f4, f5⟩ := boxR_cells HD.out.f
 obtain ⟨q0, q1, q2, q3, q4, q5, q6, q7⟩ := box_cells HD.out.c
 obtain ⟨r0, r1, r2, r3, r4, r5⟩ := boxR_cells HD.out.r
 have zf0 := blk_frozen HD.out.f 0
 have zf1 := blk_frozen HD.out.f 1
 have zf2 := blk_frozen HD.out.f 2
 have zf3 := blk_frozen HD.out.f 3
 have zf4 := blk_frozen HD.out.f 4
 have zf5 := blk_frozen HD.out.f 5
 have zr0 := blk_frozen HD.out.r 0
 have zr1 := blk_frozen HD.out.r 1
 have zr2 := blk_frozen HD.out.r 2
 have zr3 := blk_frozen HD.out.r 3
 have zr4 := blk_frozen HD.out.r 4
 have zr5 := blk_frozen HD.out.r 5
 have hl0 : b < w4.heap.size := by have := HS.out; omega
 have hl1 : b + 1 < w4.heap.size := by have := HS.out; omega
 have hl2 : b + 1 + 1 < w4.heap.size := by have := HS.out; omega
 obtain ⟨ce, hcl, hM, hcc, hfr⟩ := Kd.R_elem HR.out z36 (t2 : Int) n1 n2
 obtain rfl := k36_openM hM
 have k11 := hcc 11 _ rfl
 have z11 := hfr 11
 simp only [show kN.sz = 13 from rfl, Int.toNat_natCast] at k11 z11
 have HCC := Aside0.mk hcc
 clear hcl hM hcc hfr
 refine wp_region_still_tail 10 (by kernel_rfl) (by kernel_rfl) ?_
 simp only [List.take_succ_cons, List.take_zero, List.drop_succ_cons, List.drop_zero]
 repeat still_step
 refine wpStill_nil ?_
 change wpList _ _ _ _ _ w4.drew
 go_wp2
 have hne2 : ∀ k, ((ok3 ok b k ∧ k < S1) ∨ S1 ≤ k) → k ≠ b + 1 + 1 := fun k hk => by have := HSB.out; rcases hk with ⟨⟨_, hk⟩ | hk, _⟩ | hk <;> omega
 have hfin : ∀ k, ((ok3 ok b k ∧ k < S1) ∨ S1 ≤ k) → ok k ∨ b ≤ k := fun k hk => by
  have := HSB.out
  rcases hk with ⟨⟨q, hk⟩ | hk, _⟩ | hk
  ·exact Or.inl q
  ·exact Or.inr (by omega)
  ·exact Or.inr (by omega)
 have hseg := Kd.R_seg HR.out (t2 : Int) n1 n2 (seg := [(.int .i64 x7)]) (j := 11) (x' := (⟨(R.n (t2 : Int)).f0, (R.n (t2 : Int)).f1, (R.n (t2 : Int)).f2, (R.n (t2 : Int)).f3, (R.n (t2 : Int)).f4, (R.n (t2 : Int)).f5, (R.n (t2 : Int)).f6, (R.n (t2 : Int)).f7, (R.n (t2 : Int)).f8, ⟨(R.n (t2 : Int)).f9.f0, (R.n (t2 : Int)).f9.f1, x7⟩, (R.n (t2 : Int)).f10⟩ : Node)) (okp := fun k => w1.heap.size ≤ k ∧ k ≠ g) rfl HCC.out (show 11 + 1 ≤ 13 from by decide) (k36_mkM _ _ _ _) (fun _ hk => hk)
 have HX : RefV ⟨R.N.set (t2 : Int).toNat ((⟨(R.n (t2 : Int)).f0, (R.n (t2 : Int)).f1, (R.n (t2 : Int)).f2, (R.n (t2 : Int)).f3, (R.n (t2 : Int)).f4, (R.n (t2 : Int)).f5, (R.n (t2 : Int)).f6, (R.n (t2 : Int)).f7, (R.n (t2 : Int)).f8, ⟨(R.n (t2 : Int)).f9.f0, (R.n (t2 : Int)).f9.f1, x7⟩, (R.n (t2 : Int)).f10⟩ : Node)), R.L, R.Cov, R.Dead, R.Above, R.Firsts⟩ (w4.setCell ⟨g, t2 * 13 + 11, none⟩ (.int .i64 x7)) (fun k => (ok3 ok b k ∧ k < S1) ∨ S1 ≤ k) #[.slice (some ⟨g, 0, none⟩) R.N.length cap, .slice A1 R.L.length c1, .slice A2 R.Cov.length c2, .slice (some ⟨gd, 0, none⟩) R.Dead.length capd, .slice A4 R.Above.length c4, .slice A5 R.Firsts.length c5] := by
  obtain ⟨y0, y1, y2, y3, y4, y5⟩ := RefV.vs (RefV.set HV.out g (t2 * 13 + 11) (.int .i64 x7) (fun k hk => by have := HGB.out; omega))
  have yN := Kd.R_V (base' := 0) hseg.1
  have yD := Kd.R_V (base' := 0) (Kd.R_far (p := ⟨g, t2 * 13 + 11, none⟩) HRD.out (fun k hk => by have h1 : w2.heap.size ≤ k := hk; have := HGL.out; show k ≠ g; omega) (.int .i64 x7))
  exact ⟨_, _, _, _, _, _, rfl, V_re yN (fun k hk => Or.inr (by have h1 : w1.heap.size ≤ k := hk; have := HS1.out; omega)), V_re y1 (fun _ hk => Or.inl hk), V_re y2 (fun _ hk => Or.inl hk), V_re yD (fun k hk => Or.inr (by have h1 : w2.heap.size ≤ k := hk; have := HGL.out; have := HGB.out; omega)), V_re y4 (fun _ hk => Or.inl hk), V_re y5 (fun _ hk => Or.inl hk)⟩
 have HBX : Below b w (w4.setCell ⟨g, t2 * 13 + 11, none⟩ (.int .i64 x7)) := (Below.setCell HB.out (by have := HGB.out; have := HSB.out; show b ≤ g; omega) _)
 refine bodyPost_ret (v := .tuple #[.agg #[.slice (some ⟨g, 0, none⟩) R.N.length cap, .slice A1 R.L.length c1, .slice A2 R.Cov.length c2, .slice (some ⟨gd, 0, none⟩) R.Dead.length capd, .slice A4 R.Above.length c4, .slice A5 R.Firsts.length c5], .int .i64 0, .int .i64 0]) (by simp [results, Try.results19, go_sem, r0, r1, r2, r3, r4, r5, hgb2, hgb5]) rfl ⟨_, rfl, ?_, ?_⟩
 ·rw [← Hb.out]
  exact (((((((HX.set _ 0 _ hne2).set _ 1 _ hne2).set _ 2 _ hne2).set _ 3 _ hne2).set _ 4 _ hne2).set _ 5 _ hne2).below (below_drew1 (Below.refl _ _))).mono hfin
 ·have hge : b ≤ b + 1 + 1 := by omega
  rw [← Hb.out]
  exact below_drew1 ((((((HBX.setCell hge _).setCell hge _).setCell hge _).setCell hge _).setCell hge _).setCell hge _)
end Go.Proofs.Ytlfldoghomnbkaa.QVfs
