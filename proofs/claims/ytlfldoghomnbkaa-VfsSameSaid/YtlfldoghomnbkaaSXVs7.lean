import Derived.Test.YtlfldoghomnbkaaSS2
-- Texts of this seat, what the claim does not reach struck out by a program.
namespace Go.Proofs.Ytlfldoghomnbkaa.QVfs
open Go.RowKit Go.Proofs.YtlfldoghomnbkaaW.PrintWords Go.Proofs.YtlfldoghomnbkaaW.PrintLast Go.Proofs.YtlfldoghomnbkaaW.PrintMore
set_option linter.unusedVariables false
set_option linter.unusedSimpArgs false
def fileR (dev mode n b : Int) : Node := ⟨dev, 0, 1, modeR mode, 0, 0, n, b, 0, ⟨0, 0, 0⟩, ⟨#[]⟩⟩
set_option maxHeartbeats 8000000 in
set_option maxRecDepth 100000 in
theorem rdo_file0 (R : Ref) (c : Chg) (w : World) (vs : Array Value) (m : Nat) (ok : Nat → Prop) (h : RefV R w ok vs) (hO : R.Ok m) (hm : m ≤ 1000000) (s3 : c.f3.size ≤ 1000000) (s4 : c.f4.size ≤ 1000000) (hk : c.f0 = 1) (hE : R.wrongE c = 0) (hin : 0 ≤ c.f1 ∧ c.f1 < R.N.length) (h7 : 0 ≤ c.f7 ∧ c.f7 ≤ 9223372036854775807) (hr : c.f7 % 4096 = 0) :
  Calls Try.prog 19 #[.agg vs, .agg (encC c).toArray] w fun e w' => ∃ vs', e = .returned (.tuple #[.agg vs', .int .i64 (R.N.length : Int), .int .i64 0]) ∧ RefV (⟨(R.add (fileR (R.n c.f1).f0 c.f5 c.f7 (wrap64 (8 * (c.f7 / 4096)))) (-1)).N, (R.add (fileR (R.n c.f1).f0 c.f5 c.f7 (wrap64 (8 * (c.f7 / 4096)))) (-1)).L ++ [⟨c.f1, ⟨c.f3, (R.N.length : Int)⟩⟩], (R.add (fileR (R.n c.f1).f0 c.f5 c.f7 (wrap64 (8 * (c.f7 / 4096)))) (-1)).Cov, (R.add (fileR (R.n c.f1).f0 c.f5 c.f7 (wrap64 (8 * (c.f7 / 4096)))) (-1)).Dead, (R.add (fileR (R.n c.f1).f0 c.f5 c.f7 (wrap64 (8 * (c.f7 / 4096)))) (-1)).Above, (R.add (fileR (R.n c.f1).f0 c.f5 c.f7 (wrap64 (8 * (c.f7 / 4096)))) (-1)).Firsts⟩) w' (fun k => ok k ∨ w.heap.size ≤ k) vs' ∧ Below w.heap.size w w' := by
 have hW := fun W (hB : Below w.heap.size w W) => refWrong_calls R c W vs m (h.below hB).at hO hm s3 s4
 rw [hE] at hW
 obtain ⟨x0, x1, x2, x3, x4, x5, x6, x7⟩ := c
 simp only at *
 subst hk
 clear hE
 obtain ⟨t1, rfl⟩ : ∃ t : Nat, x1 = t := ⟨x1.toNat, by omega⟩
 have n1 : (0 : Int) ≤ (t1 : Int) := hin.1
 have n2 : (t1 : Int) < (R.N.length : Int) := hin.2
 clear hin
 have d7 : decide (0 < x7 % 4096) = false := decide_eq_false (by omega)
 have h70 : 0 ≤ x7 := h7.1
 have h71 : x7 / 4096 + 1 ≤ 2251799813685248 := by omega
 have h72 : 0 ≤ x7 / 4096 := by omega
 clear hr h7
 have hV := h.bound
 obtain ⟨A0, c0, A1, c1, A2, c2, A3, c3, A4, c4, A5, c5, rfl⟩ := hV.form
 clear h
 obtain ⟨ad0, he0, _⟩ := at_T36 (V_C hV.vs.1) (t1 : Int) n1 n2
 subst he0
 have HW := Aside0.mk hW
 have HV0 := Aside0.mk hV
 have HO := Aside0.mk hO
 have HM := Aside0.mk hm
 clear hW hV hO hm
 obtain ⟨b, hb⟩ : ∃ b, b = w.heap.size := ⟨_, rfl⟩
 obtain ⟨W0, hW0⟩ : ∃ W0 : World, W0 = ((w.alloc (.cells #[.slice (some ad0) R.N.length c0, .slice A1 R.L.length c1, .slice A2 R.Cov.length c2, .slice A3 R.Dead.length c3, .slice A4 R.Above.length c4, .slice A5 R.Firsts.length c5] TR)).alloc (.cells #[.int .i64 1, .int .i64 (t1 : Int), .int .i64 x2, .string x3, .string x4, .int .i64 x5, .int .i64 x6, .int .i64 x7] TC)).alloc (.cells #[.slice none 0 0, .slice none 0 0, .slice none 0 0, .slice none 0 0, .slice none 0 0, .slice none 0 0] TR) := ⟨_, rfl⟩
 have hB0 : Below b w W0 := by rw [hW0, hb]; exact (((Below.refl _ w).alloc (Nat.le_refl _) _).alloc (by simp) _).alloc (by simp; omega) _
 have hs0 : W0.heap.size = b + 3 := by rw [hW0, hb]; simp
 have hd : DoAt b #[.slice (some ad0) R.N.length c0, .slice A1 R.L.length c1, .slice A2 R.Cov.length c2, .slice A3 R.Dead.length c3, .slice A4 R.Above.length c4, .slice A5 R.Firsts.length c5] #[.int .i64 1, .int .i64 (t1 : Int), .int .i64 x2, .string x3, .string x4, .int .i64 x5, .int .i64 x6, .int .i64 x7] W0 := by
  rw [hW0, hb]
  have e0 := heap_alloc_new w (.cells #[.slice (some ad0) R.N.length c0, .slice A1 R.L.length c1, .slice A2 R.Cov.length c2, .slice A3 R.Dead.length c3, .slice A4 R.Above.length c4, .slice A5 R.Firsts.length c5] TR)
  have e1 := heap_alloc_new (w.alloc (.cells #[.slice (some ad0) R.N.length c0, .slice A1 R.L.length c1, .slice A2 R.Cov.length c2, .slice A3 R.Dead.length c3, .slice A4 R.Above.length c4, .slice A5 R.Firsts.length c5] TR)) (.cells #[.int .i64 1, .int .i64 (t1 : Int), .int .i64 x2, .string x3, .string x4, .int .i64 x5, .int .i64 x6, .int .i64 x7] TC)
  have e2 := heap_alloc_new ((w.alloc (.cells #[.slice (some ad0) R.N.length c0, .slice A1 R.L.length c1, .slice A2 R.Cov.length c2, .slice A3 R.Dead.length c3, .slice A4 R.Above.length c4, .slice A5 R.Firsts.length c5] TR)).alloc (.cells #[.int .i64 1, .int .i64 (t1 : Int), .int .i64 x2, .string x3, .string x4, .int .i64 x5, .int .i64 x6, .int .i64 x7] TC)) (.cells #[.slice none 0 0, .slice none 0 0, .slice none 0 0, .slice none 0 0, .slice none 0 0, .slice none 0 0] TR)
  simp only [World.size_alloc] at e1 e2
  exact ⟨(Below.heap_alloc _ _ _ (by simp; omega)).trans ((Below.heap_alloc _ _ _ (by simp)).trans e0), (Below.heap_alloc _ _ _ (by simp)).trans e1, e2⟩
 have HV := Aside0.mk ((HV0.out.below (hb ▸ hB0)).mono (ok' := ok3 ok b) (fun k hk => Or.inl (hb ▸ hk)))
 have HB := Aside0.mk hB0
 have HD := Aside0.mk hd
 have HS := Aside0.mk (show b + 3 ≤ W0.heap.size by omega)
 have Hb := Aside0.mk hb
 unfold encC
 obtain ⟨f0, f1, f2, f3, f4, f5⟩ := boxR_cells HD.out.f
 obtain ⟨q0, q1, q2, q3, q4, q5, q6, q7⟩ := box_cells HD.out.c
 obtain ⟨r0, r1, r2, r3, r4, r5⟩ := boxR_cells HD.out.r
 have zf0 := blk_frozen HD.out.f 0
 have zf1 := blk_frozen HD.out.f 1
 have zf2 := blk_frozen HD.out.f 2
 have zf3 := blk_frozen HD.out.f 3
 have zf4 := blk_frozen HD.out.f 4
 have zf5 := blk_frozen HD.out.f 5
 have zr0 := blk_frozen HD.out.r 0
 have zr1 := blk_frozen HD.out.r 1
 have zr2 := blk_frozen HD.out.r 2
 have zr3 := blk_frozen HD.out.r 3
 have zr4 := blk_frozen HD.out.r 4
 have zr5 := blk_frozen HD.out.r 5
 have hl0 : b < W0.heap.size := by have := HS.out; omega
 have hl1 : b + 1 < W0.heap.size := by have := HS.out; omega
 have hl2 : b + 1 + 1 < W0.heap.size := by have := HS.out; omega
 clear hB0 hd hs0
 go_enter Try.func19, Try.ntmps19
 go_wp2_with fail
 rw [← hW0, ← hb]
 clear hW0 hb
 refine (HW.out W0 (Hb.out ▸ HB.out)).mono ?_
 rintro e w1 ⟨rfl, hb1⟩
 have HB' : Aside0 (Below b w w1) := ⟨HB.out.trans (hb1.mono (by have := HS.out; omega))⟩
 have HD' := Aside0.mk (HD.out.below hb1)
 have HV' := Aside0.mk (HV.out.below hb1)
 have HS' := Aside0.mk (Nat.le_trans HS.out hb1.size)
 clear f0 f1 f2 f3 f4 f5 q0 q1 q2 q3 q4 q5 q6 q7 r0 r1 r2 r3 r4 r5 zf0 zr0 zf1 zr1 zf2 zr2 zf3 zr3 zf4 zr4 zf5 zr5 hl0 hl1 hl2
 clear HB HD HV HS hb1
 have HB := HB'
 have HD := HD'
 have HV := HV'
 have HS := HS'
 clear HB' HD' HV' HS'
 obtain ⟨f0, f1, f2, f3, f4, f5⟩ := boxR_cells HD.out.f
 obtain ⟨q0, q1, q2, q3, q4, q5, q6, q7⟩ := box_cells HD.out.c
 obtain ⟨r0, r1, r2, r3, r4, r5⟩ := boxR_cells HD.out.r
 have zf0 := blk_frozen HD.out.f 0
 have zf1 := blk_frozen HD.out.f 1
 have zf2 := blk_frozen HD.out.f 2
 have zf3 := blk_frozen HD.out.f 3
 have zf4 := blk_frozen HD.out.f 4
 have zf5 := blk_frozen HD.out.f 5
 have zr0 := blk_frozen HD.out.r 0
 have zr1 := blk_frozen HD.out.r 1
 have zr2 := blk_frozen HD.out.r 2
 have zr3 := blk_frozen HD.out.r 3
 have zr4 := blk_frozen HD.out.r 4
 have zr5 := blk_frozen HD.out.r 5
 have hl0 : b < w1.heap.size := by have := HS.out; omega
 have hl1 : b + 1 < w1.heap.size := by have := HS.out; omega
 have hl2 : b + 1 + 1 < w1.heap.size := by have := HS.out; omega
 have HLL := Aside0.mk (Nat.le_trans HO.out.L HM.out)
 obtain ⟨okF, hokF⟩ : ∃ f : Nat → Prop, f = ok3 ok b := ⟨_, rfl⟩
 have HNB : Aside0 (∀ k, okF k → k ≠ b) := ⟨fun k hk => by rw [hokF] at hk; rcases hk with ⟨_, hk⟩ | hk <;> omega⟩
 have HNR : Aside0 (∀ k, okF k → k ≠ b + 1 + 1) := ⟨fun k hk => by rw [hokF] at hk; rcases hk with ⟨_, hk⟩ | hk <;> omega⟩
 have HFIN : Aside0 (∀ k, okF k → ok k ∨ b ≤ k) := ⟨fun k hk => by rw [hokF] at hk; rcases hk with ⟨hk, _⟩ | hk; exact Or.inl hk; exact Or.inr (by omega)⟩
 rw [← hokF] at HV
 clear hokF
 have hn0 := (nodeR (V_C HV.out.vs.1) (t1 : Int) n1 n2).1
 rw [Int.toNat_natCast] at hn0
 obtain ⟨dv, hdv⟩ : ∃ dv, dv = (R.n (t1 : Int)).f0 := ⟨_, rfl⟩
 replace hn0 : w1.cell? (ad0.add (t1 * 13)) = some (.int .i64 dv) := by rw [hdv]; exact hn0
 have HDV := Aside0.mk hdv
 clear hdv
 go_wp2_with fail
 refine start_ (n := 18) (S := fun w' => w'.cell? ⟨b, 0, none⟩ = some (.slice (some ad0) R.N.length c0) ∧ w'.cell? ⟨b, 1, none⟩ = some (.slice A1 R.L.length c1) ∧ w'.cell? ⟨b, 2, none⟩ = some (.slice A2 R.Cov.length c2) ∧ w'.cell? ⟨b, 3, none⟩ = some (.slice A3 R.Dead.length c3) ∧ w'.cell? ⟨b, 4, none⟩ = some (.slice A4 R.Above.length c4) ∧ w'.cell? ⟨b, 5, none⟩ = some (.slice A5 R.Firsts.length c5) ∧ w'.cell? ⟨b + 1, 1, none⟩ = some (.int .i64 (t1 : Int)) ∧ w'.cell? ⟨b + 1, 4, none⟩ = some (.string x4) ∧ w'.cell? ⟨b + 1, 5, none⟩ = some (.int .i64 x5) ∧ w'.cell? ⟨b + 1, 7, none⟩ = some (.int .i64 x7) ∧ w'.cell? (ad0.add (t1 * 13)) = some (.int .i64 dv)) (ds := [17]) #[false, false, false, false, false, false, false, false, false, false, false, false, false, false, false, false, false, false] (by kernel_rfl) rfl rfl ⟨f0, f1, f2, f3, f4, f5, q1, q4, q5, q7, hn0⟩ ?_
 intro hHeld
 obtain ⟨wd, hwd⟩ : ∃ wd, wd = w1.drew := ⟨_, rfl⟩
 rw [← hwd] at hHeld ⊢
 have hbd : Below w1.heap.size w1 wd := by rw [hwd]; exact below_drew (Below.refl _ _)
 have hsd : wd.heap.size = w1.heap.size := by rw [hwd]; rfl
 clear hwd
 refine take_ (i := 0) (N := some 50) (v := ?_) (a' := ?_) #[true, false, false, false, false, false, false, false, false, false, false, false, false, false, false, false, false, false] rfl rfl (by kernel_rfl) (fun _ _ _ h => h) (Or.inl ⟨by rfl, ?_⟩) hHeld ?_ ?_
 rotate_left
 ·rintro w' ⟨s0, s1, s2, s3, s4, s5, s6, s7, s8, s9, s10⟩
  go_simp
  with_reducible rfl
 rotate_left
 ·simp only [Act.put, List.setIfInBounds_toArray, List.set_cons_zero, List.set_cons_succ, i64_w, i32_w]
  rfl
 refine pure_ (i := 1) (N := some 51) (v := ?_) (a' := ?_) #[true, true, false, false, false, false, false, false, false, false, false, false, false, false, false, false, false, false] rfl rfl (by kernel_rfl) (fun _ _ _ h => h) (Or.inl ⟨by rfl, ?_⟩) ?_ ?_
 rotate_left
 ·intro w'
  go_simp
  with_reducible rfl
 rotate_left
 ·simp only [Act.put, List.setIfInBounds_toArray, List.set_cons_zero, List.set_cons_succ, i64_w, i32_w]
  rfl
 refine take_ (i := 2) (N := some 52) (v := ?_) (a' := ?_) #[true, true, true, false, false, false, false, false, false, false, false, false, false, false, false, false, false, false] rfl rfl (by kernel_rfl) (fun _ _ _ h => h) (Or.inl ⟨by rfl, ?_⟩) hHeld ?_ ?_
 rotate_left
 ·rintro w' ⟨s0, s1, s2, s3, s4, s5, s6, s7, s8, s9, s10⟩
  go_simp
  with_reducible rfl
 rotate_left
 ·simp only [Act.put, List.setIfInBounds_toArray, List.set_cons_zero, List.set_cons_succ, i64_w, i32_w]
  rfl
 refine pure_ (i := 3) (N := some 53) (v := ?_) (a' := ?_) #[true, true, true, true, false, false, false, false, false, false, false, false, false, false, false, false, false, false] rfl rfl (by kernel_rfl) (fun _ _ _ h => h) (Or.inl ⟨by rfl, ?_⟩) ?_ ?_
 rotate_left
 ·intro w'
  go_simp
  with_reducible rfl
 rotate_left
 ·simp only [Act.put, List.setIfInBounds_toArray, List.set_cons_zero, List.set_cons_succ, i64_w, i32_w]
  rfl
 refine take_ (i := 4) (N := some 54) (v := ?_) (a' := ?_) #[true, true, true, true, true, false, false, false, false, false, false, false, false, false, false, false, false, false] rfl rfl (by kernel_rfl) (fun _ _ _ h => h) (Or.inl ⟨by rfl, ?_⟩) hHeld ?_ ?_
 rotate_left
 ·rintro w' ⟨s0, s1, s2, s3, s4, s5, s6, s7, s8, s9, s10⟩
  go_simp
  with_reducible rfl
 rotate_left
 ·simp only [Act.put, List.setIfInBounds_toArray, List.set_cons_zero, List.set_cons_succ, i64_w, i32_w]
  rfl
 refine pure_ (i := 5) (N := some 55) (v := ?_) (a' := ?_) #[true, true, true, true, true, true, false, false, false, false, false, false, false, false, false, false, false, false] rfl rfl (by kernel_rfl) (fun _ _ _ h => h) (Or.inl ⟨by rfl, ?_⟩) ?_ ?_
 rotate_left
 ·intro w'
  go_simp
  with_reducible rfl
 rotate_left
 ·simp only [Act.put, List.setIfInBounds_toArray, List.set_cons_zero, List.set_cons_succ, i64_w, i32_w]
  rfl
 refine pure_ (i := 6) (N := some 56) (v := ?_) (a' := ?_) #[true, true, true, true, true, true, true, false, false, false, false, false, false, false, false, false, false, false] rfl rfl (by kernel_rfl) (fun _ _ _ h => h) (Or.inl ⟨by rfl, ?_⟩) ?_ ?_
 rotate_left
 ·intro w'
  go_simp
  with_reducible rfl
 rotate_left
 ·simp only [Act.put, List.setIfInBounds_toArray, List.set_cons_zero, List.set_cons_succ, i64_w, i32_w]
  rfl
 refine take_ (i := 7) (N := some 57) (v := ?_) (a' := ?_) #[true, true, true, true, true, true, true, true, false, false, false, false, false, false, false, false, false, false] rfl rfl (by kernel_rfl) (fun _ _ _ h => h) (Or.inl ⟨by rfl, ?_⟩) hHeld ?_ ?_
 rotate_left
 ·rintro w' ⟨s0, s1, s2, s3, s4, s5, s6, s7, s8, s9, s10⟩
  go_simp
  with_reducible rfl
 rotate_left
 ·simp only [Act.put, List.setIfInBounds_toArray, List.set_cons_zero, List.set_cons_succ, i64_w, i32_w]
  rfl
 refine pure_ (i := 8) (N := some 58) (v := ?_) (a' := ?_) #[true, true, true, true, true, true, true, true, true, false, false, false, false, false, false, false, false, false] rfl rfl (by kernel_rfl) (fun _ _ _ h => h) (Or.inl ⟨by rfl, ?_⟩) ?_ ?_
 rotate_left
 ·intro w'
  go_simp
  with_reducible rfl
 rotate_left
 ·simp only [Act.put, List.setIfInBounds_toArray, List.set_cons_zero, List.set_cons_succ, i64_w, i32_w]
  rfl
 refine take_ (i := 9) (N := some 59) (v := ?_) (a' := ?_) #[true, true, true, true, true, true, true, true, true, true, false, false, false, false, false, false, false, false] rfl rfl (by kernel_rfl) (fun _ _ _ h => h) (Or.inl ⟨by rfl, ?_⟩) hHeld ?_ ?_
 rotate_left
 ·rintro w' ⟨s0, s1, s2, s3, s4, s5, s6, s7, s8, s9, s10⟩
  go_simp
  with_reducible rfl
 rotate_left
 ·simp only [Act.put, List.setIfInBounds_toArray, List.set_cons_zero, List.set_cons_succ, i64_w, i32_w]
  rfl
 refine pure_ (i := 11) (N := some 61) (v := ?_) (a' := ?_) #[true, true, true, true, true, true, true, true, true, true, false, true, false, false, false, false, false, false] rfl rfl (by kernel_rfl) (fun _ _ _ h => h) (Or.inl ⟨by rfl, ?_⟩) ?_ ?_
 rotate_left
 ·intro w'
  go_simp
  with_reducible rfl
 rotate_left
 ·simp only [Act.put, List.setIfInBounds_toArray, List.set_cons_zero, List.set_cons_succ, i64_w, i32_w]
  rfl
 refine take_ (i := 12) (N := some 62) (v := ?_) (a' := ?_) #[true, true, true, true, true, true, true, true, true, true, false, true, true, false, false, false, false, false] rfl rfl (by kernel_rfl) (fun _ _ _ h => h) (Or.inl ⟨by rfl, ?_⟩) hHeld ?_ ?_
 rotate_left
 ·rintro w' ⟨s0, s1, s2, s3, s4, s5, s6, s7, s8, s9, s10⟩
  go_simp
  with_reducible rfl
 rotate_left
 ·simp only [Act.put, List.setIfInBounds_toArray, List.set_cons_zero, List.set_cons_succ, i64_w, i32_w]
  rfl
 refine pure_ (i := 13) (N := some 63) (v := ?_) (a' := ?_) #[true, true, true, true, true, true, true, true, true, true, false, true, true, true, false, false, false, false] rfl rfl (by kernel_rfl) (fun _ _ _ h => h) (Or.inl ⟨by rfl, ?_⟩) ?_ ?_
 rotate_left
 ·intro w'
  go_simp
  with_reducible rfl
 rotate_left
 ·simp only [Act.put, List.setIfInBounds_toArray, List.set_cons_zero, List.set_cons_succ, i64_w, i32_w]
  rfl
 refine pure_ (i := 14) (N := some 64) (v := ?_) (a' := ?_) #[true, true, true, true, true, true, true, true, true, true, false, true, true, true, true, false, false, false] rfl rfl (by kernel_rfl) (fun _ _ _ h => h) (Or.inl ⟨by rfl, ?_⟩) ?_ ?_
 rotate_left
 ·intro w'
  go_simp
  with_reducible rfl
 rotate_left
 ·simp only [Act.put, List.setIfInBounds_toArray, List.set_cons_zero, List.set_cons_succ, i64_w, i32_w]
  rfl
 refine one_ (i := 10) (N := some 60) #[true, true, true, true, true, true, true, true, true, true, true, true, true, true, true, false, false, false] rfl rfl (by kernel_rfl) (by decide) (fun K hK => ?_)
 refine goes_ Try.func33 (by kernel_rfl) rfl #[.int .i64 x5] (by rfl) rfl rfl (by simp only [List.map_toArray, List.map_cons, List.map_nil]; rfl) ?_
 refine (bits_calls _ _).mono ?_
 rintro e w' ⟨rfl, hww⟩
 obtain rfl : wd = w' := hww.symm
 refine ⟨_, rfl, ?_⟩
 refine hK.out _ _ hHeld (fun _ => ?_)
 clear hK K
 refine norm_ (a' := ?_) ?_ ?_
 rotate_left
 ·show Act.put _ (some 60) _ = _
  simp only [Act.put, List.setIfInBounds_toArray, List.set_cons_zero, List.set_cons_succ]
  rfl
 refine pure_ (i := 15) (N := some 65) (v := ?_) (a' := ?_) #[true, true, true, true, true, true, true, true, true, true, true, true, true, true, true, true, false, false] rfl rfl (by kernel_rfl) (fun _ _ _ h => h) (Or.inl ⟨by rfl, ?_⟩) ?_ ?_
 rotate_left
 ·intro w'
  go_simp
  with_reducible rfl
 rotate_left
 ·simp only [Act.put, List.setIfInBounds_toArray, List.set_cons_zero, List.set_cons_succ, i64_w, i32_w]
  rfl
 have hA := addV_calls R (fileR dv x5 x7 (wrap64 (8 * (x7 / 4096)))) (-1) wd okF _ (HV.out.below hbd) (by have := HO.out.N; have := HO.out.Cov; have := HO.out.Dead; have := HO.out.Above; omega)
 unfold encN at hA
 refine one_ (i := 16) (N := some 66) #[true, true, true, true, true, true, true, true, true, true, true, true, true, true, true, true, true, false] rfl rfl (by kernel_rfl) (by decide) (fun K hK => ?_)
 refine goes_ Try.func32 (by kernel_rfl) rfl #[.agg #[.slice (some ad0) R.N.length c0, .slice A1 R.L.length c1, .slice A2 R.Cov.length c2, .slice A3 R.Dead.length c3, .slice A4 R.Above.length c4, .slice A5 R.Firsts.length c5], .agg #[.int .i64 dv, .int .i64 0, .int .i64 1, .int .i64 (modeR x5), .int .i64 0, .int .i64 0, .int .i64 x7, .int .i64 (wrap64 (8 * (x7 / 4096))), .int .i64 0, .int .i64 0, .int .i64 0, .int .i64 0, .string ⟨#[]⟩], .int .i64 (-1)] (by rfl) rfl rfl (by simp only [List.map_toArray, List.map_cons, List.map_nil]; rfl) ?_
 refine (hA).mono ?_
 rintro e w2 ⟨us, rfl, hVA, hB2⟩
 refine ⟨_, rfl, ?_⟩
 refine hK.out _ _ ⟨pw_cell_below hB2 hHeld.1, pw_cell_below hB2 hHeld.2.1, pw_cell_below hB2 hHeld.2.2.1, pw_cell_below hB2 hHeld.2.2.2.1, pw_cell_below hB2 hHeld.2.2.2.2.1, pw_cell_below hB2 hHeld.2.2.2.2.2.1, pw_cell_below hB2 hHeld.2.2.2.2.2.2.1, pw_cell_below hB2 hHeld.2.2.2.2.2.2.2.1, pw_cell_below hB2 hHeld.2.2.2.2.2.2.2.2.1, pw_cell_below hB2 hHeld.2.2.2.2.2.2.2.2.2.1, pw_cell_below hB2 hHeld.2.2.2.2.2.2.2.2.2.2⟩ (fun _ => ?_)
 clear hK K hA
 obtain ⟨R1, hR1⟩ : ∃ X, X = (R.add (fileR dv x5 x7 (wrap64 (8 * (x7 / 4096)))) (-1)) := ⟨_, rfl⟩
 rw [← hR1] at hVA
 rw [HDV.out] at hR1
 obtain ⟨A0, c0, A1, c1, A2, c2, A3, c3, A4, c4, A5, c5, rfl⟩ := hVA.form
 refine norm_ (a' := ?_) ?_ ?_
 rotate_left
 ·show Act.put _ (some 66) _ = _
  simp only [Act.put, List.setIfInBounds_toArray, List.set_cons_zero, List.set_cons_succ]
  rfl
 have hbw := hbd.trans (hB2.mono (by omega))
 have hD2 := HD.out.below hbw
 obtain ⟨e0, e1, e2, e3, e4, e5⟩ := boxR_cells hD2.f
 have y0 := blk_frozen hD2.f 0
 have y1 := blk_frozen hD2.f 1
 have y2 := blk_frozen hD2.f 2
 have y3 := blk_frozen hD2.f 3
 have y4 := blk_frozen hD2.f 4
 have y5 := blk_frozen hD2.f 5
 refine last_ (i := 17) (N := none) #[true, true, true, true, true, true, true, true, true, true, true, true, true, true, true, true, true, true] rfl rfl (by kernel_rfl) (by decide) (fun K hK => ?_)
 refine skip_ (w1 := ((((((w2.setCell ⟨b, 0, none⟩ (.slice A0 R1.N.length c0)).setCell ⟨b, 1, none⟩ (.slice A1 R1.L.length c1)).setCell ⟨b, 2, none⟩ (.slice A2 R1.Cov.length c2)).setCell ⟨b, 3, none⟩ (.slice A3 R1.Dead.length c3)).setCell ⟨b, 4, none⟩ (.slice A4 R1.Above.length c4)).setCell ⟨b, 5, none⟩ (.slice A5 R1.Firsts.length c5))) (by rfl) rfl (by go_simp) ?_
 refine hK.out _ _ ?_
 clear hK K
 refine done_ (by kernel_rfl) ?_
 obtain ⟨w3, hw3⟩ : ∃ w3, w3 = ((((((w2.setCell ⟨b, 0, none⟩ (.slice A0 R1.N.length c0)).setCell ⟨b, 1, none⟩ (.slice A1 R1.L.length c1)).setCell ⟨b, 2, none⟩ (.slice A2 R1.Cov.length c2)).setCell ⟨b, 3, none⟩ (.slice A3 R1.Dead.length c3)).setCell ⟨b, 4, none⟩ (.slice A4 R1.Above.length c4)).setCell ⟨b, 5, none⟩ (.slice A5 R1.Firsts.length c5)) := ⟨_, rfl⟩
 rw [← hw3]
 have hnb : ∀ k, (okF k ∨ wd.heap.size ≤ k) → k ≠ b := fun k hk => hk.elim (HNB.out k) (fun hk => by have := HS.out; omega)
 have hnr : ∀ k, (okF k ∨ wd.heap.size ≤ k) → k ≠ b + 1 + 1 := fun k hk => hk.elim (HNR.out k) (fun hk => by have := HS.out; omega)
 have HV3 : Aside0 (RefV R1 w3 _ #[.slice A0 R1.N.length c0, .slice A1 R1.L.length c1, .slice A2 R1.Cov.length c2, .slice A3 R1.Dead.length c3, .slice A4 R1.Above.length c4, .slice A5 R1.Firsts.length c5]) := ⟨by rw [hw3]; exact ((((((hVA.set b 0 _ hnb).set b 1 _ hnb).set b 2 _ hnb).set b 3 _ hnb).set b 4 _ hnb).set b 5 _ hnb)⟩
 have HB3 : Aside0 (Below b w w3) := ⟨by rw [hw3]; exact ((((((HB.out.trans (hbw.mono (by have := HS.out; omega))).setCell (Nat.le_refl _) _).setCell (Nat.le_refl _) _).setCell (Nat.le_refl _) _).setCell (Nat.le_refl _) _).setCell (Nat.le_refl _) _).setCell (Nat.le_refl _) _⟩
 have HD3 : Aside0 (DoAt b #[.slice A0 R1.N.length c0, .slice A1 R1.L.length c1, .slice A2 R1.Cov.length c2, .slice A3 R1.Dead.length c3, .slice A4 R1.Above.length c4, .slice A5 R1.Firsts.length c5] #[.int .i64 1, .int .i64 (t1 : Int), .int .i64 x2, .string x3, .string x4, .int .i64 x5, .int .i64 x6, .int .i64 x7] w3) := ⟨by rw [hw3]; exact (((((hD2.set 0 _).set 1 _).set 2 _).set 3 _).set 4 _).set 5 _⟩
 have HS3 : Aside0 (b + 3 ≤ w3.heap.size) := ⟨by rw [hw3]; simp; have := HS.out; have := hbw.size; omega⟩
 have HLL3 : Aside0 (R1.L.length ≤ 1000000) := ⟨by rw [hR1]; exact HLL.out⟩
 have HR1 := Aside0.mk hR1
 obtain ⟨okF2, hokF2⟩ : ∃ f : Nat → Prop, f = (fun k => okF k ∨ wd.heap.size ≤ k) := ⟨_, rfl⟩
 rw [← hokF2] at HV3
 have HNB2 : Aside0 (∀ k, okF2 k → k ≠ b) := ⟨by rw [hokF2]; exact hnb⟩
 have HNR2 : Aside0 (∀ k, okF2 k → k ≠ b + 1 + 1) := ⟨by rw [hokF2]; exact hnr⟩
 have HFIN2 : Aside0 (∀ k, okF2 k → ok k ∨ b ≤ k) := ⟨by rw [hokF2]; exact fun k hk => hk.elim (HFIN.out k) (fun hk => Or.inr (by have := HS.out; omega))⟩
 clear f0 f1 f2 f3 f4 f5 q0 q1 q2 q3 q4 q5 q6 q7 r0 r1 r2 r3 r4 r5 zf0 zr0 zf1 zr1 zf2 zr2 zf3 zr3 zf4 zr4 zf5 zr5 hl0 hl1 hl2
 clear hw3 hnb hnr hVA hbw hD2 e0 e1 e2 e3 e4 e5 y0 y1 y2 y3 y4 y5 hR1 hB2 hbd hsd hHeld HV HB HD HS HLL hn0 HNB HNR HFIN hokF2
 have HV := HV3
 have HB := HB3
 have HD := HD3
 have HS := HS3
 clear HV3 HB3 HD3 HS3
 obtain ⟨f0, f1, f2, f3, f4, f5⟩ := boxR_cells HD.out.f
 obtain ⟨q0, q1, q2, q3, q4, q5, q6, q7⟩ := box_cells HD.out.c
 obtain ⟨r0, r1, r2, r3, r4, r5⟩ := boxR_cells HD.out.r
 have zf0 := blk_frozen HD.out.f 0
 have zf1 := blk_frozen HD.out.f 1
 have zf2 := blk_frozen HD.out.f 2
 have zf3 := blk_frozen HD.out.f 3
 have zf4 := blk_frozen HD.out.f 4
 have zf5 := blk_frozen HD.out.f 5
 have zr0 := blk_frozen HD.out.r 0
 have zr1 := blk_frozen HD.out.r 1
 have zr2 := blk_frozen HD.out.r 2
 have zr3 := blk_frozen HD.out.r 3
 have zr4 := blk_frozen HD.out.r 4
 have zr5 := blk_frozen HD.out.r 5
 have hl0 : b < w3.heap.size := by have := HS.out; omega
 have hl1 : b + 1 < w3.heap.size := by have := HS.out; omega
 have hl2 : b + 1 + 1 < w3.heap.size := by have := HS.out; omega
 skip
 go_wp2_with fail
 refine start_ (n := 15) (S := fun w' => w'.cell? ⟨b, 1, none⟩ = some (.slice A1 R1.L.length c1) ∧ w'.cell? ⟨b + 1, 1, none⟩ = some (.int .i64 (t1 : Int)) ∧ w'.cell? ⟨b + 1, 3, none⟩ = some (.string x3)) (ds := [14]) #[false, false, false, false, false, false, false, false, false, false, false, false, false, false, false] (by kernel_rfl) rfl rfl ⟨f1, q1, q3⟩ ?_
 intro hHeld
 obtain ⟨wd2, hwd⟩ : ∃ wd2, wd2 = w3.drew := ⟨_, rfl⟩
 rw [← hwd] at hHeld ⊢
 have hbd : Below w3.heap.size w3 wd2 := by rw [hwd]; exact below_drew (Below.refl _ _)
 have hsd : wd2.heap.size = w3.heap.size := by rw [hwd]; rfl
 clear hwd
 refine pure_ (i := 1) (N := some 117) (v := ?_) (a' := ?_) #[false, true, false, false, false, false, false, false, false, false, false, false, false, false, false] rfl rfl (by kernel_rfl) (fun _ _ _ h => h) (Or.inl ⟨by rfl, ?_⟩) ?_ ?_
 rotate_left
 ·intro w'
  go_simp
  with_reducible rfl
 rotate_left
 ·simp only [Act.put, List.setIfInBounds_toArray, List.set_cons_zero, List.set_cons_succ, i64_w, i32_w]
  rfl
 refine take_ (i := 2) (N := some 118) (v := ?_) (a' := ?_) #[false, true, true, false, false, false, false, false, false, false, false, false, false, false, false] rfl rfl (by kernel_rfl) (fun _ _ _ h => h) (Or.inl ⟨by rfl, ?_⟩) hHeld ?_ ?_
 rotate_left
 ·rintro w' ⟨s0, s1, s2⟩
  go_simp
  with_reducible rfl
 rotate_left
 ·simp only [Act.put, List.setIfInBounds_toArray, List.set_cons_zero, List.set_cons_succ, i64_w, i32_w]
  rfl
 refine pure_ (i := 4) (N := some 120) (v := ?_) (a' := ?_) #[false, true, true, false, true, false, false, false, false, false, false, false, false, false, false] rfl rfl (by kernel_rfl) (fun _ _ _ h => h) (Or.inl ⟨by rfl, ?_⟩) ?_ ?_
 rotate_left
 ·intro w'
  go_simp
  with_reducible rfl
 rotate_left
 ·simp only [Act.put, List.setIfInBounds_toArray, List.set_cons_zero, List.set_cons_succ, i64_w, i32_w]
  rfl
 refine take_ (i := 5) (N := some 121) (v := ?_) (a' := ?_) #[false, true, true, false, true, true, false, false, false, false, false, false, false, false, false] rfl rfl (by kernel_rfl) (fun _ _ _ h => h) (Or.inl ⟨by rfl, ?_⟩) hHeld ?_ ?_
 rotate_left
 ·rintro w' ⟨s0, s1, s2⟩
  go_simp
  with_reducible rfl
 rotate_left
 ·simp only [Act.put, List.setIfInBounds_toArray, List.set_cons_zero, List.set_cons_succ, i64_w, i32_w]
  rfl
 refine pure_ (i := 6) (N := some 122) (v := ?_) (a' := ?_) #[false, true, true, false, true, true, true, false, false, false, false, false, false, false, false] rfl rfl (by kernel_rfl) (fun _ _ _ h => h) (Or.inl ⟨by rfl, ?_⟩) ?_ ?_
 rotate_left
 ·intro w'
  go_simp
  with_reducible rfl
 rotate_left
 ·simp only [Act.put, List.setIfInBounds_toArray, List.set_cons_zero, List.set_cons_succ, i64_w, i32_w]
  rfl
 refine take_ (i := 7) (N := some 123) (v := ?_) (a' := ?_) #[false, true, true, false, true, true, true, true, false, false, false, false, false, false, false] rfl rfl (by kernel_rfl) (fun _ _ _ h => h) (Or.inl ⟨by rfl, ?_⟩) hHeld ?_ ?_
 rotate_left
 ·rintro w' ⟨s0, s1, s2⟩
  go_simp
  with_reducible rfl
 rotate_left
 ·simp only [Act.put, List.setIfInBounds_toArray, List.set_cons_zero, List.set_cons_succ, i64_w, i32_w]
  rfl
 refine pure_ (i := 8) (N := some 124) (v := ?_) (a' := ?_) #[false, true, true, false, true, true, true, true, true, false, false, false, false, false, false] rfl rfl (by kernel_rfl) (fun _ _ _ h => h) (Or.inl ⟨by rfl, ?_⟩) ?_ ?_
 rotate_left
 ·intro w'
  go_simp
  with_reducible rfl
 rotate_left
 ·simp only [Act.put, List.setIfInBounds_toArray, List.set_cons_zero, List.set_cons_succ, i64_w, i32_w]
  rfl
 refine pure_ (i := 9) (N := some 125) (v := ?_) (a' := ?_) #[false, true, true, false, true, true, true, true, true, true, false, false, false, false, false] rfl rfl (by kernel_rfl) (fun _ _ _ h => h) (Or.inl ⟨by rfl, ?_⟩) ?_ ?_
 rotate_left
 ·intro w'
  go_simp
  with_reducible rfl
 rotate_left
 ·simp only [Act.put, List.setIfInBounds_toArray, List.set_cons_zero, List.set_cons_succ, i64_w, i32_w]
  rfl
 refine pure_ (i := 10) (N := some 126) (v := ?_) (a' := ?_) #[false, true, true, false, true, true, true, true, true, true, true, false, false, false, false] rfl rfl (by kernel_rfl) (fun _ _ _ h => h) (Or.inl ⟨by rfl, ?_⟩) ?_ ?_
 rotate_left
 ·intro w'
  go_simp
  with_reducible rfl
 rotate_left
 ·simp only [Act.put, List.setIfInBounds_toArray, List.set_cons_zero, List.set_cons_succ, i64_w, i32_w]
  rfl
 have hCL := V_C HV.out.vs.2.1
 have hCL' := Kd.C_below hCL hbd
 have hlL : ((R1).L.length + 1) * 32 ≤ 140737488355328 := by have := HLL3.out; omega
 refine join_ (σ := Value × Value × Value) 3 #[true, true, true, true, true, true, true, true, true, true, true, true, false, false, false] (fun s => [(116, s.1), (119, s.2.1), (127, s.2.2)]) (Joined wd2 (R1).L (⟨(t1 : Int), ⟨x3, (R.N.length : Int)⟩⟩ : RItem)) ?_ ?_
 ·rintro ⟨v116, v119, s2⟩ w' ⟨gi, hs2, hR, hbi, hgi, hBJ⟩
  simp only at hs2 hR
  subst hs2
  refine norm_ (a' := ?_) ?_ ?_
  rotate_left
  ·show putAll _ _ = _
   simp only [putAll, Act.put, List.setIfInBounds_toArray, List.set_cons_zero, List.set_cons_succ]
   rfl
  refine one_ (i := 12) (N := some 128) #[true, true, true, true, true, true, true, true, true, true, true, true, true, false, false] rfl rfl (by kernel_rfl) (by decide) (fun K hK => ?_)
  refine step_C kL KM_L (w0 := wd2) wd2.heap.size (by rfl) (.tmp 119) (.tmp 127) 44 81 (.agg #[.int .i64 0, .string ⟨#[]⟩, .int .i64 0]) 32 rfl Try.underlying44 infoL rfl (by decide) (by decide) v119 (R1).L [(⟨(t1 : Int), ⟨x3, (R.N.length : Int)⟩⟩ : RItem)] (some ⟨gi, 0, none⟩) 1 1 (fun k => wd2.heap.size ≤ k ∧ k ≠ gi) (by rfl) (by rfl) hR (item_C (x := (⟨(t1 : Int), ⟨x3, (R.N.length : Int)⟩⟩ : RItem)) hbi) (fun k hk => ⟨Nat.le_trans hBJ.size hk, by have := blk_lt hbi; omega⟩) hBJ hBJ.size hlL ?_
  intro v1 w4 hR2 hB2 _
  refine hK.out _ _ ⟨pw_cell_below hB2 hHeld.1, pw_cell_below hB2 hHeld.2.1, pw_cell_below hB2 hHeld.2.2⟩ (fun _ => ?_)
  clear hK K hR hbi
  refine norm_ (a' := ?_) ?_ ?_
  rotate_left
  ·show Act.put _ (some 128) _ = _
   simp only [Act.put, List.setIfInBounds_toArray, List.set_cons_zero, List.set_cons_succ]
   rfl
  refine pure_ (i := 13) (N := some 129) (v := ?_) (a' := ?_) #[true, true, true, true, true, true, true, true, true, true, true, true, true, true, false] rfl rfl (by kernel_rfl) (fun _ _ _ h => h) (Or.inl ⟨by rfl, ?_⟩) ?_ ?_
  rotate_left
  ·intro w'
   go_simp
   with_reducible rfl
  rotate_left
  ·simp only [Act.put, List.setIfInBounds_toArray, List.set_cons_zero, List.set_cons_succ, i64_w, i32_w]
   rfl
  obtain ⟨g, cap, rfl, hgl, hgb, hgs⟩ := R_form hR2 (by simp)
  have hbw := hbd.trans (hB2.mono (by omega))
  have hf1 : w4.cell? ⟨b, 1, none⟩ = some (.slice A1 (R1).L.length c1) := pw_cell_below hbw f1
  have hz1 : w4.frozen? ⟨b, 1, none⟩ = false := by have h0 := (hbw.block b (by have := HS.out; omega)).trans HD.out.f; exact blk_frozen h0 1
  refine last_ (i := 14) (N := none) #[true, true, true, true, true, true, true, true, true, true, true, true, true, true, true] rfl rfl (by kernel_rfl) (by decide) (fun K hK => ?_)
  refine skip_ (w1 := w4.setCell ⟨b, 1, none⟩ (.slice (some ⟨g, 0, none⟩) ((R1).L ++ [(⟨(t1 : Int), ⟨x3, (R.N.length : Int)⟩⟩ : RItem)]).length cap)) (by rfl) rfl (by go_simp) ?_
  refine hK.out _ _ ?_
  clear hK K
  refine done_ (by kernel_rfl) ?_
  obtain ⟨w5, hw3⟩ : ∃ w5, w5 = w4.setCell ⟨b, 1, none⟩ (.slice (some ⟨g, 0, none⟩) ((R1).L ++ [(⟨(t1 : Int), ⟨x3, (R.N.length : Int)⟩⟩ : RItem)]).length cap) := ⟨_, rfl⟩
  rw [← hw3]
  have hws : w3.heap.size = wd2.heap.size := hsd.symm
  have hneb : ∀ k, (okF2 k ∧ k < w3.heap.size) → k ≠ b := fun k hk => HNB2.out k hk.1
  have hx := RefV.set (HV.out.bound.below hbw) b 1 (.slice (some ⟨g, 0, none⟩) ((R1).L ++ [(⟨(t1 : Int), ⟨x3, (R.N.length : Int)⟩⟩ : RItem)]).length cap) hneb
  have hxL := Kd.R_V (base' := 0) (Kd.R_far (p := ⟨b, 1, none⟩) hR2 (fun k hk => by have h1 := hk.1; have := HS.out; show k ≠ b; omega) (.slice (some ⟨g, 0, none⟩) ((R1).L ++ [(⟨(t1 : Int), ⟨x3, (R.N.length : Int)⟩⟩ : RItem)]).length cap))
  rw [← hw3] at hx hxL
  have HX3 : Aside0 (RefV ⟨(R1).N, (R1).L ++ [(⟨(t1 : Int), ⟨x3, (R.N.length : Int)⟩⟩ : RItem)], (R1).Cov, (R1).Dead, (R1).Above, (R1).Firsts⟩ w5 (fun k => okF2 k ∨ wd2.heap.size ≤ k) #[.slice A0 (R1).N.length c0, .slice (some ⟨g, 0, none⟩) ((R1).L ++ [(⟨(t1 : Int), ⟨x3, (R.N.length : Int)⟩⟩ : RItem)]).length cap, .slice A2 (R1).Cov.length c2, .slice A3 (R1).Dead.length c3, .slice A4 (R1).Above.length c4, .slice A5 (R1).Firsts.length c5]) := ⟨by
   obtain ⟨y0, y1, y2, y3, y4, y5⟩ := hx.vs
   exact ⟨_, _, _, _, _, _, rfl, V_re y0 (fun k hk => Or.inl hk.1), V_re hxL (fun k hk => Or.inr hk.1), V_re y2 (fun k hk => Or.inl hk.1), V_re y3 (fun k hk => Or.inl hk.1), V_re y4 (fun k hk => Or.inl hk.1), V_re y5 (fun k hk => Or.inl hk.1)⟩⟩
  have HB3 : Aside0 (Below b w w5) := ⟨by rw [hw3]; exact (HB.out.trans (hbw.mono (by have := HS.out; omega))).setCell (Nat.le_refl _) _⟩
  have HD3 : Aside0 (DoAt b #[.slice A0 (R1).N.length c0, .slice (some ⟨g, 0, none⟩) ((R1).L ++ [(⟨(t1 : Int), ⟨x3, (R.N.length : Int)⟩⟩ : RItem)]).length cap, .slice A2 (R1).Cov.length c2, .slice A3 (R1).Dead.length c3, .slice A4 (R1).Above.length c4, .slice A5 (R1).Firsts.length c5] #[.int .i64 1, .int .i64 (t1 : Int), .int .i64 x2, .string x3, .string x4, .int .i64 x5, .int .i64 x6, .int .i64 x7] w5) := ⟨by rw [hw3]; exact (HD.out.below hbw).set 1 _⟩
  have HS3 : Aside0 (b + 3 ≤ wd2.heap.size) := ⟨by have := HS.out; omega⟩
  have HSw : Aside0 (b + 3 ≤ w5.heap.size) := ⟨by rw [hw3]; simp; have := HS.out; have := hbw.size; omega⟩
  clear f0 f1 f2 f3 f4 f5 q0 q1 q2 q3 q4 q5 q6 q7 r0 r1 r2 r3 r4 r5 zf0 zr0 zf1 zr1 zf2 zr2 zf3 zr3 zf4 zr4 zf5 zr5 hl0 hl1 hl2
  clear hw3 hws hneb hx hxL hf1 hz1 hbw hbd hsd hHeld hR2 hB2 hBJ HB HD HS hCL hCL' hlL
  have HD := HD3
  have HS := HSw
  obtain ⟨f0, f1, f2, f3, f4, f5⟩ := boxR_cells HD.out.f
  obtain ⟨q0, q1, q2, q3, q4, q5, q6, q7⟩ := box_cells HD.out.c
  obtain ⟨r0, r1, r2, r3, r4, r5⟩ := boxR_cells HD.out.r
  have zf0 := blk_frozen HD.out.f 0
  have zf1 := blk_frozen HD.out.f 1
  have zf2 := blk_frozen HD.out.f 2
  have zf3 := blk_frozen HD.out.f 3
  have zf4 := blk_frozen HD.out.f 4
  have zf5 := blk_frozen HD.out.f 5
  have zr0 := blk_frozen HD.out.r 0
  have zr1 := blk_frozen HD.out.r 1
  have zr2 := blk_frozen HD.out.r 2
  have zr3 := blk_frozen HD.out.r 3
  have zr4 := blk_frozen HD.out.r 4
  have zr5 := blk_frozen HD.out.r 5
  have hl0 : b < w5.heap.size := by have := HS.out; omega
  have hl1 : b + 1 < w5.heap.size := by have := HS.out; omega
  have hl2 : b + 1 + 1 < w5.heap.size := by have := HS.out; omega
  go_wp2
  have hne2 : ∀ k, (okF2 k ∨ wd2.heap.size ≤ k) → k ≠ b + 1 + 1 := fun k hk => hk.elim (HNR2.out k) (fun hk => by have := HS3.out; omega)
  have hfin : ∀ k, (okF2 k ∨ wd2.heap.size ≤ k) → ok k ∨ b ≤ k := fun k hk => hk.elim (HFIN2.out k) (fun hk => Or.inr (by have := HS3.out; omega))
  have HX := HX3.out
  have HBX := HB3.out
  have hgb2 := True.intro
  have hgb5 := True.intro
  obtain rfl := HR1.out
  refine bodyPost_ret (v := .tuple #[.agg #[.slice A0 ((R.add (fileR (R.n (t1 : Int)).f0 x5 x7 (wrap64 (8 * (x7 / 4096)))) (-1))).N.length c0, .slice (some ⟨g, 0, none⟩) (((R.add (fileR (R.n (t1 : Int)).f0 x5 x7 (wrap64 (8 * (x7 / 4096)))) (-1))).L ++ [(⟨(t1 : Int), ⟨x3, (R.N.length : Int)⟩⟩ : RItem)]).length cap, .slice A2 ((R.add (fileR (R.n (t1 : Int)).f0 x5 x7 (wrap64 (8 * (x7 / 4096)))) (-1))).Cov.length c2, .slice A3 ((R.add (fileR (R.n (t1 : Int)).f0 x5 x7 (wrap64 (8 * (x7 / 4096)))) (-1))).Dead.length c3, .slice A4 ((R.add (fileR (R.n (t1 : Int)).f0 x5 x7 (wrap64 (8 * (x7 / 4096)))) (-1))).Above.length c4, .slice A5 ((R.add (fileR (R.n (t1 : Int)).f0 x5 x7 (wrap64 (8 * (x7 / 4096)))) (-1))).Firsts.length c5], .int .i64 (R.N.length : Int), .int .i64 0]) (by simp [results, Try.results19, go_sem, r0, r1, r2, r3, r4, r5, hgb2, hgb5]) rfl ⟨_, rfl, ?_, ?_⟩
  ·rw [← Hb.out]
   exact (((((((HX.set _ 0 _ hne2).set _ 1 _ hne2).set _ 2 _ hne2).set _ 3 _ hne2).set _ 4 _ hne2).set _ 5 _ hne2)).mono hfin
  ·have hge : b ≤ b + 1 + 1 := by omega
   rw [← Hb.out]
   exact ((((((HBX.setCell hge _).setCell hge _).setCell hge _).setCell hge _).setCell hge _).setCell hge _)
 ·intro hCont
  refine two_ (i := 0) (j := 11) (Ni := some 116) (Nj := some 127) #[true, true, true, false, true, true, true, true, true, true, true, false, false, false, false] #[false, true, true, false, true, true, true, true, true, true, true, true, false, false, false] rfl rfl rfl rfl (by kernel_rfl) (by decide) (by decide) (fun K hK => ?_) (fun K hK => ?_)
  ·refine value_ (v := .slice (some ⟨(wd2).heap.size, 0, none⟩) 0 0) (w1 := (wd2).alloc (.cells #[] TL)) (by rfl) rfl (by go_simp) ?_
   refine hK.out _ _ ⟨pw_cell_below (below_all _) hHeld.1, pw_cell_below (below_all _) hHeld.2.1, pw_cell_below (below_all _) hHeld.2.2⟩ (fun _ => ?_)
   clear hK K
   refine norm_ (a' := ?_) ?_ ?_
   rotate_left
   ·show Act.put _ (some 116) _ = _
    simp only [Act.put, List.setIfInBounds_toArray, List.set_cons_zero, List.set_cons_succ]
    rfl
   have hB0 : Below wd2.heap.size wd2 (wd2.alloc (.cells #[] TL)) := below_all _
   obtain ⟨wa, hwa⟩ : ∃ wa, wa = wd2.alloc (.cells #[] TL) := ⟨_, rfl⟩
   have hsa : wa.heap.size = wd2.heap.size + 1 := by rw [hwa]; simp
   have hRa : ∀ ok : Nat → Prop, (∀ k, k = wd2.heap.size → ok k) → kL.R TL wa wd2.heap.size ok (.slice (some ⟨wd2.heap.size, 0, none⟩) 0 0) [] := fun ok hok => by rw [hwa]; exact Kd.R_mono (Kd.R_reok (ok := fun k => k = wd2.heap.size) rfl (R_made kL TL wd2 (fun _ => True) (fun _ _ => trivial)) (fun k hk => by simpa [Value.ownBlock] using hk.symm)) hok
   rw [← hwa] at hB0 ⊢
   clear hwa
   refine two_ (i := 3) (j := 11) (Ni := some 119) (Nj := some 127) #[true, true, true, true, true, true, true, true, true, true, true, false, false, false, false] #[true, true, true, false, true, true, true, true, true, true, true, true, false, false, false] rfl rfl rfl rfl (by kernel_rfl) (by decide) (by decide) (fun K hK => ?_) (fun K hK => ?_)
   ·refine step_C kL KM_L (w0 := wd2) wd2.heap.size (by rfl) (.tmp 116) (.tmp 118) 44 81 (.agg #[.int .i64 0, .string ⟨#[]⟩, .int .i64 0]) 32 rfl Try.underlying44 infoL rfl (by decide) (by decide) (.slice (some ⟨wd2.heap.size, 0, none⟩) 0 0) [] (R1).L A1 _ _ (fun k => wd2.heap.size ≤ k) (by rfl) (by rfl) (hRa _ (fun k hk => by omega)) (Kd.C_below hCL' hB0) (fun k hk => by omega) hB0 hB0.size (by simp; omega) ?_
    intro v119 w4 hR2 hB2 _
    refine hK.out _ _ ⟨pw_cell_below hB2 hHeld.1, pw_cell_below hB2 hHeld.2.1, pw_cell_below hB2 hHeld.2.2⟩ (fun _ => ?_)
    clear hK K
    refine norm_ (a' := ?_) ?_ ?_
    rotate_left
    ·show Act.put _ (some 119) _ = _
     simp only [Act.put, List.setIfInBounds_toArray, List.set_cons_zero, List.set_cons_succ]
     rfl
    refine one_ (i := 11) (N := some 127) #[true, true, true, true, true, true, true, true, true, true, true, true, false, false, false] rfl rfl (by kernel_rfl) (by decide) (fun K hK => ?_)
    refine value_ (v := .slice (some ⟨(w4).heap.size, 0, none⟩) 1 1) (w1 := (w4).alloc (.cells #[.int .i64 (t1 : Int), .string x3, .int .i64 (R.N.length : Int)] TL)) (by rfl) rfl (by go_simp) ?_
    have hb3 := hB2.alloc hB2.size (.cells #[.int .i64 (t1 : Int), .string x3, .int .i64 (R.N.length : Int)] TL)
    refine hK.out _ _ ⟨pw_cell_below hb3 hHeld.1, pw_cell_below hb3 hHeld.2.1, pw_cell_below hb3 hHeld.2.2⟩ (fun _ => ?_)
    clear hK K
    exact hCont (.slice (some ⟨wd2.heap.size, 0, none⟩) 0 0, v119, .slice (some ⟨w4.heap.size, 0, none⟩) 1 1) _ ⟨w4.heap.size, rfl, Kd.R_alloc (Kd.R_mono (Kd.R_bound (by simpa using hR2)) (fun k hk => ⟨hk.1, by have := hk.2.2.1; omega⟩)) _, heap_alloc_new _ _, hB2.size, hb3⟩
   ·refine value_ (v := .slice (some ⟨(wa).heap.size, 0, none⟩) 1 1) (w1 := (wa).alloc (.cells #[.int .i64 (t1 : Int), .string x3, .int .i64 (R.N.length : Int)] TL)) (by rfl) rfl (by go_simp) ?_
    have hb3 := hB0.alloc hB0.size (.cells #[.int .i64 (t1 : Int), .string x3, .int .i64 (R.N.length : Int)] TL)
    refine hK.out _ _ ⟨pw_cell_below hb3 hHeld.1, pw_cell_below hb3 hHeld.2.1, pw_cell_below hb3 hHeld.2.2⟩ (fun _ => ?_)
    clear hK K
    refine norm_ (a' := ?_) ?_ ?_
    rotate_left
    ·show Act.put _ (some 127) _ = _
     simp only [Act.put, List.setIfInBounds_toArray, List.set_cons_zero, List.set_cons_succ]
     rfl
    have hbi := heap_alloc_new wa (.cells #[.int .i64 (t1 : Int), .string x3, .int .i64 (R.N.length : Int)] TL)
    refine one_ (i := 3) (N := some 119) #[true, true, true, true, true, true, true, true, true, true, true, true, false, false, false] rfl rfl (by kernel_rfl) (by decide) (fun K hK => ?_)
    refine step_C kL KM_L (w0 := wd2) wd2.heap.size (by rfl) (.tmp 116) (.tmp 118) 44 81 (.agg #[.int .i64 0, .string ⟨#[]⟩, .int .i64 0]) 32 rfl Try.underlying44 infoL rfl (by decide) (by decide) (.slice (some ⟨wd2.heap.size, 0, none⟩) 0 0) [] (R1).L A1 _ _ (fun k => wd2.heap.size ≤ k ∧ k ≠ wa.heap.size) (by rfl) (by rfl) (Kd.R_alloc (hRa _ (fun k hk => ⟨by omega, by omega⟩)) _) (Kd.C_below hCL' hb3) (fun k hk => by simp at hk; exact ⟨by omega, by omega⟩) hb3 hb3.size (by simp; omega) ?_
    intro v119 w4 hR2 hB2 hg2
    refine hK.out _ _ ⟨pw_cell_below hB2 hHeld.1, pw_cell_below hB2 hHeld.2.1, pw_cell_below hB2 hHeld.2.2⟩ (fun _ => ?_)
    clear hK K
    exact hCont (.slice (some ⟨wd2.heap.size, 0, none⟩) 0 0, v119, .slice (some ⟨wa.heap.size, 0, none⟩) 1 1) _ ⟨wa.heap.size, rfl, by simpa using hR2, (hg2.block _ (by simp) (by simp [Value.ownBlock]; omega)).trans hbi, by omega, hB2⟩
  ·refine value_ (v := .slice (some ⟨(wd2).heap.size, 0, none⟩) 1 1) (w1 := (wd2).alloc (.cells #[.int .i64 (t1 : Int), .string x3, .int .i64 (R.N.length : Int)] TL)) (by rfl) rfl (by go_simp) ?_
   refine hK.out _ _ ⟨pw_cell_below (below_all _) hHeld.1, pw_cell_below (below_all _) hHeld.2.1, pw_cell_below (below_all _) hHeld.2.2⟩ (fun _ => ?_)
   clear hK K
   refine norm_ (a' := ?_) ?_ ?_
   rotate_left
   ·show Act.put _ (some 127) _ = _
    simp only [Act.put, List.setIfInBounds_toArray, List.set_cons_zero, List.set_cons_succ]
    rfl
   have hB0 : Below wd2.heap.size wd2 (wd2.alloc (.cells #[.int .i64 (t1 : Int), .string x3, .int .i64 (R.N.length : Int)] TL)) := below_all _
   have hbi := heap_alloc_new wd2 (.cells #[.int .i64 (t1 : Int), .string x3, .int .i64 (R.N.length : Int)] TL)
   obtain ⟨wa, hwa⟩ : ∃ wa, wa = wd2.alloc (.cells #[.int .i64 (t1 : Int), .string x3, .int .i64 (R.N.length : Int)] TL) := ⟨_, rfl⟩
   have hsa : wa.heap.size = wd2.heap.size + 1 := by rw [hwa]; simp
   rw [← hwa] at hB0 hbi ⊢
   clear hwa
   refine one_ (i := 0) (N := some 116) #[true, true, true, false, true, true, true, true, true, true, true, true, false, false, false] rfl rfl (by kernel_rfl) (by decide) (fun K hK => ?_)
   refine value_ (v := .slice (some ⟨(wa).heap.size, 0, none⟩) 0 0) (w1 := (wa).alloc (.cells #[] TL)) (by rfl) rfl (by go_simp) ?_
   have hb3 := hB0.alloc hB0.size (.cells #[] TL)
   refine hK.out _ _ ⟨pw_cell_below hb3 hHeld.1, pw_cell_below hb3 hHeld.2.1, pw_cell_below hb3 hHeld.2.2⟩ (fun _ => ?_)
   clear hK K
   refine norm_ (a' := ?_) ?_ ?_
   rotate_left
   ·show Act.put _ (some 116) _ = _
    simp only [Act.put, List.setIfInBounds_toArray, List.set_cons_zero, List.set_cons_succ]
    rfl
   refine one_ (i := 3) (N := some 119) #[true, true, true, true, true, true, true, true, true, true, true, true, false, false, false] rfl rfl (by kernel_rfl) (by decide) (fun K hK => ?_)
   refine step_C kL KM_L (w0 := wd2) wd2.heap.size (by rfl) (.tmp 116) (.tmp 118) 44 81 (.agg #[.int .i64 0, .string ⟨#[]⟩, .int .i64 0]) 32 rfl Try.underlying44 infoL rfl (by decide) (by decide) (.slice (some ⟨wa.heap.size, 0, none⟩) 0 0) [] (R1).L A1 _ _ (fun k => wd2.heap.size ≤ k ∧ k ≠ wd2.heap.size) (by rfl) (by rfl) (Kd.R_lower (R_made kL TL wa _ (fun k hk => ⟨by omega, by omega⟩)) (by omega)) (Kd.C_below hCL' hb3) (fun k hk => by simp at hk; exact ⟨by omega, by omega⟩) hb3 hb3.size (by simp; omega) ?_
   intro v119 w4 hR2 hB2 hg2
   refine hK.out _ _ ⟨pw_cell_below hB2 hHeld.1, pw_cell_below hB2 hHeld.2.1, pw_cell_below hB2 hHeld.2.2⟩ (fun _ => ?_)
   clear hK K
   exact hCont (.slice (some ⟨wa.heap.size, 0, none⟩) 0 0, v119, .slice (some ⟨wd2.heap.size, 0, none⟩) 1 1) _ ⟨wd2.heap.size, rfl, by simpa using hR2, (hg2.block _ (by simp; omega) (by simp [Value.ownBlock]; omega)).trans ((Below.heap_alloc wa _ _ (by omega)).trans hbi), Nat.le_refl _, hB2⟩
set_option maxHeartbeats 8000000 in
set_option maxRecDepth 100000 in
theorem rdo_file1 (R : Ref) (c : Chg) (w : World) (vs : Array Value) (m : Nat) (ok : Nat → Prop) (h : RefV R w ok vs) (hO : R.Ok m) (hm : m ≤ 1000000) (s3 : c.f3.size ≤ 1000000) (s4 : c.f4.size ≤ 1000000) (hk : c.f0 = 1) (hE : R.wrongE c = 0) (hin : 0 ≤ c.f1 ∧ c.f1 < R.N.length) (h7 : 0 ≤ c.f7 ∧ c.f7 ≤ 9223372036854775807) (hr : 0 < c.f7 % 4096) :
  Calls Try.prog 19 #[.agg vs, .agg (encC c).toArray] w fun e w' => ∃ vs', e = .returned (.tuple #[.agg vs', .int .i64 (R.N.length : Int), .int .i64 0]) ∧ RefV (⟨(R.add (fileR (R.n c.f1).f0 c.f5 c.f7 (wrap64 (8 * (c.f7 / 4096 + 1)))) (-1)).N, (R.add (fileR (R.n c.f1).f0 c.f5 c.f7 (wrap64 (8 * (c.f7 / 4096 + 1)))) (-1)).L ++ [⟨c.f1, ⟨c.f3, (R.N.length : Int)⟩⟩], (R.add (fileR (R.n c.f1).f0 c.f5 c.f7 (wrap64 (8 * (c.f7 / 4096 + 1)))) (-1)).Cov, (R.add (fileR (R.n c.f1).f0 c.f5 c.f7 (wrap64 (8 * (c.f7 / 4096 + 1)))) (-1)).Dead, (R.add (fileR (R.n c.f1).f0 c.f5 c.f7 (wrap64 (8 * (c.f7 / 4096 + 1)))) (-1)).Above, (R.add (fileR (R.n c.f1).f0 c.f5 c.f7 (wrap64 (8 * (c.f7 / 4096 + 1)))) (-1)).Firsts⟩) w' (fun k => ok k ∨ w.heap.size ≤ k) vs' ∧ Below w.heap.size w w' := by
 have hW := fun W (hB : Below w.heap.size w W) => refWrong_calls R c W vs m (h.below hB).at hO hm s3 s4
 rw [hE] at hW
 obtain ⟨x0, x1, x2, x3, x4, x5, x6, x7⟩ := c
 simp only at *
 subst hk
 clear hE
 obtain ⟨t1, rfl⟩ : ∃ t : Nat, x1 = t := ⟨x1.toNat, by omega⟩
 have n1 : (0 : Int) ≤ (t1 : Int) := hin.1
 have n2 : (t1 : Int) < (R.N.length : Int) := hin.2
 clear hin
 have d7 : decide (0 < x7 % 4096) = true := decide_eq_true hr
 have h70 : 0 ≤ x7 := h7.1
 have h71 : x7 / 4096 + 1 ≤ 2251799813685248 := by omega
 have h72 : 0 ≤ x7 / 4096 := by omega
 clear hr h7
 have hV := h.bound
 obtain ⟨A0, c0, A1, c1, A2, c2, A3, c3, A4, c4, A5, c5, rfl⟩ := hV.form
 clear h
 obtain ⟨ad0, he0, _⟩ := at_T36 (V_C hV.vs.1) (t1 : Int) n1 n2
 subst he0
 have HW := Aside0.mk hW
 have HV0 := Aside0.mk hV
 have HO := Aside0.mk hO
 have HM := Aside0.mk hm
 clear hW hV hO hm
 obtain ⟨b, hb⟩ : ∃ b, b = w.heap.size := ⟨_, rfl⟩
 obtain ⟨W0, hW0⟩ : ∃ W0 : World, W0 = ((w.alloc (.cells #[.slice (some ad0) R.N.length c0, .slice A1 R.L.length c1, .slice A2 R.Cov.length c2, .slice A3 R.Dead.length c3, .slice A4 R.Above.length c4, .slice A5 R.Firsts.length c5] TR)).alloc (.cells #[.int .i64 1, .int .i64 (t1 : Int), .int .i64 x2, .string x3, .string x4, .int .i64 x5, .int .i64 x6, .int .i64 x7] TC)).alloc (.cells #[.slice none 0 0, .slice none 0 0, .slice none 0 0, .slice none 0 0, .slice none 0 0, .slice none 0 0] TR) := ⟨_, rfl⟩
 have hB0 : Below b w W0 := by rw [hW0, hb]; exact (((Below.refl _ w).alloc (Nat.le_refl _) _).alloc (by simp) _).alloc (by simp; omega) _
 have hs0 : W0.heap.size = b + 3 := by rw [hW0, hb]; simp
 have hd : DoAt b #[.slice (some ad0) R.N.length c0, .slice A1 R.L.length c1, .slice A2 R.Cov.length c2, .slice A3 R.Dead.length c3, .slice A4 R.Above.length c4, .slice A5 R.Firsts.length c5] #[.int .i64 1, .int .i64 (t1 : Int), .int .i64 x2, .string x3, .string x4, .int .i64 x5, .int .i64 x6, .int .i64 x7] W0 := by
  rw [hW0, hb]
  have e0 := heap_alloc_new w (.cells #[.slice (some ad0) R.N.length c0, .slice A1 R.L.length c1, .slice A2 R.Cov.length c2, .slice A3 R.Dead.length c3, .slice A4 R.Above.length c4, .slice A5 R.Firsts.length c5] TR)
  have e1 := heap_alloc_new (w.alloc (.cells #[.slice (some ad0) R.N.length c0, .slice A1 R.L.length c1, .slice A2 R.Cov.length c2, .slice A3 R.Dead.length c3, .slice A4 R.Above.length c4, .slice A5 R.Firsts.length c5] TR)) (.cells #[.int .i64 1, .int .i64 (t1 : Int), .int .i64 x2, .string x3, .string x4, .int .i64 x5, .int .i64 x6, .int .i64 x7] TC)
  have e2 := heap_alloc_new ((w.alloc (.cells #[.slice (some ad0) R.N.length c0, .slice A1 R.L.length c1, .slice A2 R.Cov.length c2, .slice A3 R.Dead.length c3, .slice A4 R.Above.length c4, .slice A5 R.Firsts.length c5] TR)).alloc (.cells #[.int .i64 1, .int .i64 (t1 : Int), .int .i64 x2, .string x3, .string x4, .int .i64 x5, .int .i64 x6, .int .i64 x7] TC)) (.cells #[.slice none 0 0, .slice none 0 0, .slice none 0 0, .slice none 0 0, .slice none 0 0, .slice none 0 0] TR)
  simp only [World.size_alloc] at e1 e2
  exact ⟨(Below.heap_alloc _ _ _ (by simp; omega)).trans ((Below.heap_alloc _ _ _ (by simp)).trans e0), (Below.heap_alloc _ _ _ (by simp)).trans e1, e2⟩
 have HV := Aside0.mk ((HV0.out.below (hb ▸ hB0)).mono (ok' := ok3 ok b) (fun k hk => Or.inl (hb ▸ hk)))
 have HB := Aside0.mk hB0
 have HD := Aside0.mk hd
 have HS := Aside0.mk (show b + 3 ≤ W0.heap.size by omega)
 have Hb := Aside0.mk hb
 unfold encC
 obtain ⟨f0, f1, f2, f3, f4, f5⟩ := boxR_cells HD.out.f
 obtain ⟨q0, q1, q2, q3, q4, q5, q6, q7⟩ := box_cells HD.out.c
 obtain ⟨r0, r1, r2, r3, r4, r5⟩ := boxR_cells HD.out.r
 have zf0 := blk_frozen HD.out.f 0
 have zf1 := blk_frozen HD.out.f 1
 have zf2 := blk_frozen HD.out.f 2
 have zf3 := blk_frozen HD.out.f 3
 have zf4 := blk_frozen HD.out.f 4
 have zf5 := blk_frozen HD.out.f 5
 have zr0 := blk_frozen HD.out.r 0
 have zr1 := blk_frozen HD.out.r 1
 have zr2 := blk_frozen HD.out.r 2
 have zr3 := blk_frozen HD.out.r 3
 have zr4 := blk_frozen HD.out.r 4
 have zr5 := blk_frozen HD.out.r 5
 have hl0 : b < W0.heap.size := by have := HS.out; omega
 have hl1 : b + 1 < W0.heap.size := by have := HS.out; omega
 have hl2 : b + 1 + 1 < W0.heap.size := by have := HS.out; omega
 clear hB0 hd hs0
 go_enter Try.func19, Try.ntmps19
 go_wp2_with fail
 rw [← hW0, ← hb]
 clear hW0 hb
 refine (HW.out W0 (Hb.out ▸ HB.out)).mono ?_
 rintro e w1 ⟨rfl, hb1⟩
 have HB' : Aside0 (Below b w w1) := ⟨HB.out.trans (hb1.mono (by have := HS.out; omega))⟩
 have HD' := Aside0.mk (HD.out.below hb1)
 have HV' := Aside0.mk (HV.out.below hb1)
 have HS' := Aside0.mk (Nat.le_trans HS.out hb1.size)
 clear f0 f1 f2 f3 f4 f5 q0 q1 q2 q3 q4 q5 q6 q7 r0 r1 r2 r3 r4 r5 zf0 zr0 zf1 zr1 zf2 zr2 zf3 zr3 zf4 zr4 zf5 zr5 hl0 hl1 hl2
 clear HB HD HV HS hb1
 have HB := HB'
 have HD := HD'
 have HV := HV'
 have HS := HS'
 clear HB' HD' HV' HS'
 obtain ⟨f0, f1, f2, f3, f4, f5⟩ := boxR_cells HD.out.f
 obtain ⟨q0, q1, q2, q3, q4, q5, q6, q7⟩ := box_cells HD.out.c
 obtain ⟨r0, r1, r2, r3, r4, r5⟩ := boxR_cells HD.out.r
 have zf0 := blk_frozen HD.out.f 0
 have zf1 := blk_frozen HD.out.f 1
 have zf2 := blk_frozen HD.out.f 2
 have zf3 := blk_frozen HD.out.f 3
 have zf4 := blk_frozen HD.out.f 4
 have zf5 := blk_frozen HD.out.f 5
 have zr0 := blk_frozen HD.out.r 0
 have zr1 := blk_frozen HD.out.r 1
 have zr2 := blk_frozen HD.out.r 2
 have zr3 := blk_frozen HD.out.r 3
 have zr4 := blk_frozen HD.out.r 4
 have zr5 := blk_frozen HD.out.r 5
 have hl0 : b < w1.heap.size := by have := HS.out; omega
 have hl1 : b + 1 < w1.heap.size := by have := HS.out; omega
 have hl2 : b + 1 + 1 < w1.heap.size := by have := HS.out; omega
 have HLL := Aside0.mk (Nat.le_trans HO.out.L HM.out)
 obtain ⟨okF, hokF⟩ : ∃ f : Nat → Prop, f = ok3 ok b := ⟨_, rfl⟩
 have HNB : Aside0 (∀ k, okF k → k ≠ b) := ⟨fun k hk => by rw [hokF] at hk; rcases hk with ⟨_, hk⟩ | hk <;> omega⟩
 have HNR : Aside0 (∀ k, okF k → k ≠ b + 1 + 1) := ⟨fun k hk => by rw [hokF] at hk; rcases hk with ⟨_, hk⟩ | hk <;> omega⟩
 have HFIN : Aside0 (∀ k, okF k → ok k ∨ b ≤ k) := ⟨fun k hk => by rw [hokF] at hk; rcases hk with ⟨hk, _⟩ | hk; exact Or.inl hk; exact Or.inr (by omega)⟩
 rw [← hokF] at HV
 clear hokF
 have hn0 := (nodeR (V_C HV.out.vs.1) (t1 : Int) n1 n2).1
 rw [Int.toNat_natCast] at hn0
 obtain ⟨dv, hdv⟩ : ∃ dv, dv = (R.n (t1 : Int)).f0 := ⟨_, rfl⟩
 replace hn0 : w1.cell? (ad0.add (t1 * 13)) = some (.int .i64 dv) := by rw [hdv]; exact hn0
 have HDV := Aside0.mk hdv
 clear hdv
 go_wp2_with fail
 refine start_ (n := 18) (S := fun w' => w'.cell? ⟨b, 0, none⟩ = some (.slice (some ad0) R.N.length c0) ∧ w'.cell? ⟨b, 1, none⟩ = some (.slice A1 R.L.length c1) ∧ w'.cell? ⟨b, 2, none⟩ = some (.slice A2 R.Cov.length c2) ∧ w'.cell? ⟨b, 3, none⟩ = some (.slice A3 R.Dead.length c3) ∧ w'.cell? ⟨b, 4, none⟩ = some (.slice A4 R.Above.length c4) ∧ w'.cell? ⟨b, 5, none⟩ = some (.slice A5 R.Firsts.length c5) ∧ w'.cell? ⟨b + 1, 1, none⟩ = some (.int .i64 (t1 : Int)) ∧ w'.cell? ⟨b + 1, 4, none⟩ = some (.string x4) ∧ w'.cell? ⟨b + 1, 5, none⟩ = some (.int .i64 x5) ∧ w'.cell? ⟨b + 1, 7, none⟩ = some (.int .i64 x7) ∧ w'.cell? (ad0.add (t1 * 13)) = some (.int .i64 dv)) (ds := [17]) #[false, false, false, false, false, false, false, false, false, false, false, false, false, false, false, false, false, false] (by kernel_rfl) rfl rfl ⟨f0, f1, f2, f3, f4, f5, q1, q4, q5, q7, hn0⟩ ?_
 intro hHeld
 obtain ⟨wd, hwd⟩ : ∃ wd, wd = w1.drew := ⟨_, rfl⟩
 rw [← hwd] at hHeld ⊢
 have hbd : Below w1.heap.size w1 wd := by rw [hwd]; exact below_drew (Below.refl _ _)
 have hsd : wd.heap.size = w1.heap.size := by rw [hwd]; rfl
 clear hwd
 refine take_ (i := 0) (N := some 50) (v := ?_) (a' := ?_) #[true, false, false, false, false, false, false, false, false, false, false, false, false, false, false, false, false, false] rfl rfl (by kernel_rfl) (fun _ _ _ h => h) (Or.inl ⟨by rfl, ?_⟩) hHeld ?_ ?_
 rotate_left
 ·rintro w' ⟨s0, s1, s2, s3, s4, s5, s6, s7, s8, s9, s10⟩
  go_simp
  with_reducible rfl
 rotate_left
 ·simp only [Act.put, List.setIfInBounds_toArray, List.set_cons_zero, List.set_cons_succ, i64_w, i32_w]
  rfl
 refine pure_ (i := 1) (N := some 51) (v := ?_) (a' := ?_) #[true, true, false, false, false, false, false, false, false, false, false, false, false, false, false, false, false, false] rfl rfl (by kernel_rfl) (fun _ _ _ h => h) (Or.inl ⟨by rfl, ?_⟩) ?_ ?_
 rotate_left
 ·intro w'
  go_simp
  with_reducible rfl
 rotate_left
 ·simp only [Act.put, List.setIfInBounds_toArray, List.set_cons_zero, List.set_cons_succ, i64_w, i32_w]
  rfl
 refine take_ (i := 2) (N := some 52) (v := ?_) (a' := ?_) #[true, true, true, false, false, false, false, false, false, false, false, false, false, false, false, false, false, false] rfl rfl (by kernel_rfl) (fun _ _ _ h => h) (Or.inl ⟨by rfl, ?_⟩) hHeld ?_ ?_
 rotate_left
 ·rintro w' ⟨s0, s1, s2, s3, s4, s5, s6, s7, s8, s9, s10⟩
  go_simp
  with_reducible rfl
 rotate_left
 ·simp only [Act.put, List.setIfInBounds_toArray, List.set_cons_zero, List.set_cons_succ, i64_w, i32_w]
  rfl
 refine pure_ (i := 3) (N := some 53) (v := ?_) (a' := ?_) #[true, true, true, true, false, false, false, false, false, false, false, false, false, false, false, false, false, false] rfl rfl (by kernel_rfl) (fun _ _ _ h => h) (Or.inl ⟨by rfl, ?_⟩) ?_ ?_
 rotate_left
 ·intro w'
  go_simp
  with_reducible rfl
 rotate_left
 ·simp only [Act.put, List.setIfInBounds_toArray, List.set_cons_zero, List.set_cons_succ, i64_w, i32_w]
  rfl
 refine take_ (i := 4) (N := some 54) (v := ?_) (a' := ?_) #[true, true, true, true, true, false, false, false, false, false, false, false, false, false, false, false, false, false] rfl rfl (by kernel_rfl) (fun _ _ _ h => h) (Or.inl ⟨by rfl, ?_⟩) hHeld ?_ ?_
 rotate_left
 ·rintro w' ⟨s0, s1, s2, s3, s4, s5, s6, s7, s8, s9, s10⟩
  go_simp
  with_reducible rfl
 rotate_left
 ·simp only [Act.put, List.setIfInBounds_toArray, List.set_cons_zero, List.set_cons_succ, i64_w, i32_w]
  rfl
 refine pure_ (i := 5) (N := some 55) (v := ?_) (a' := ?_) #[true, true, true, true, true, true, false, false, false, false, false, false, false, false, false, false, false, false] rfl rfl (by kernel_rfl) (fun _ _ _ h => h) (Or.inl ⟨by rfl, ?_⟩) ?_ ?_
 rotate_left
 ·intro w'
  go_simp
  with_reducible rfl
 rotate_left
 ·simp only [Act.put, List.setIfInBounds_toArray, List.set_cons_zero, List.set_cons_succ, i64_w, i32_w]
  rfl
 refine pure_ (i := 6) (N := some 56) (v := ?_) (a' := ?_) #[true, true, true, true, true, true, true, false, false, false, false, false, false, false, false, false, false, false] rfl rfl (by kernel_rfl) (fun _ _ _ h => h) (Or.inl ⟨by rfl, ?_⟩) ?_ ?_
 rotate_left
 ·intro w'
  go_simp
  with_reducible rfl
 rotate_left
 ·simp only [Act.put, List.setIfInBounds_toArray, List.set_cons_zero, List.set_cons_succ, i64_w, i32_w]
  rfl
 refine take_ (i := 7) (N := some 57) (v := ?_) (a' := ?_) #[true, true, true, true, true, true, true, true, false, false, false, false, false, false, false, false, false, false] rfl rfl (by kernel_rfl) (fun _ _ _ h => h) (Or.inl ⟨by rfl, ?_⟩) hHeld ?_ ?_
 rotate_left
 ·rintro w' ⟨s0, s1, s2, s3, s4, s5, s6, s7, s8, s9, s10⟩
  go_simp
  with_reducible rfl
 rotate_left
 ·simp only [Act.put, List.setIfInBounds_toArray, List.set_cons_zero, List.set_cons_succ, i64_w, i32_w]
  rfl
 refine pure_ (i := 8) (N := some 58) (v := ?_) (a' := ?_) #[true, true, true, true, true, true, true, true, true, false, false, false, false, false, false, false, false, false] rfl rfl (by kernel_rfl) (fun _ _ _ h => h) (Or.inl ⟨by rfl, ?_⟩) ?_ ?_
 rotate_left
 ·intro w'
  go_simp
  with_reducible rfl
 rotate_left
 ·simp only [Act.put, List.setIfInBounds_toArray, List.set_cons_zero, List.set_cons_succ, i64_w, i32_w]
  rfl
 refine take_ (i := 9) (N := some 59) (v := ?_) (a' := ?_) #[true, true, true, true, true, true, true, true, true, true, false, false, false, false, false, false, false, false] rfl rfl (by kernel_rfl) (fun _ _ _ h => h) (Or.inl ⟨by rfl, ?_⟩) hHeld ?_ ?_
 rotate_left
 ·rintro w' ⟨s0, s1, s2, s3, s4, s5, s6, s7, s8, s9, s10⟩
  go_simp
  with_reducible rfl
 rotate_left
 ·simp only [Act.put, List.setIfInBounds_toArray, List.set_cons_zero, List.set_cons_succ, i64_w, i32_w]
  rfl
 refine pure_ (i := 11) (N := some 61) (v := ?_) (a' := ?_) #[true, true, true, true, true, true, true, true, true, true, false, true, false, false, false, false, false, false] rfl rfl (by kernel_rfl) (fun _ _ _ h => h) (Or.inl ⟨by rfl, ?_⟩) ?_ ?_
 rotate_left
 ·intro w'
  go_simp
  with_reducible rfl
 rotate_left
 ·simp only [Act.put, List.setIfInBounds_toArray, List.set_cons_zero, List.set_cons_succ, i64_w, i32_w]
  rfl
 refine take_ (i := 12) (N := some 62) (v := ?_) (a' := ?_) #[true, true, true, true, true, true, true, true, true, true, false, true, true, false, false, false, false, false] rfl rfl (by kernel_rfl) (fun _ _ _ h => h) (Or.inl ⟨by rfl, ?_⟩) hHeld ?_ ?_
 rotate_left
 ·rintro w' ⟨s0, s1, s2, s3, s4, s5, s6, s7, s8, s9, s10⟩
  go_simp
  with_reducible rfl
 rotate_left
 ·simp only [Act.put, List.setIfInBounds_toArray, List.set_cons_zero, List.set_cons_succ, i64_w, i32_w]
  rfl
 refine pure_ (i := 13) (N := some 63) (v := ?_) (a' := ?_) #[true, true, true, true, true, true, true, true, true, true, false, true, true, true, false, false, false, false] rfl rfl (by kernel_rfl) (fun _ _ _ h => h) (Or.inl ⟨by rfl, ?_⟩) ?_ ?_
 rotate_left
 ·intro w'
  go_simp
  with_reducible rfl
 rotate_left
 ·simp only [Act.put, List.setIfInBounds_toArray, List.set_cons_zero, List.set_cons_succ, i64_w, i32_w]
  rfl
 refine pure_ (i := 14) (N := some 64) (v := ?_) (a' := ?_) #[true, true, true, true, true, true, true, true, true, true, false, true, true, true, true, false, false, false] rfl rfl (by kernel_rfl) (fun _ _ _ h => h) (Or.inl ⟨by rfl, ?_⟩) ?_ ?_
 rotate_left
 ·intro w'
  go_simp
  with_reducible rfl
 rotate_left
 ·simp only [Act.put, List.setIfInBounds_toArray, List.set_cons_zero, List.set_cons_succ, i64_w, i32_w]
  rfl
 refine one_ (i := 10) (N := some 60) #[true, true, true, true, true, true, true, true, true, true, true, true, true, true, true, false, false, false] rfl rfl (by kernel_rfl) (by decide) (fun K hK => ?_)
 refine goes_ Try.func33 (by kernel_rfl) rfl #[.int .i64 x5] (by rfl) rfl rfl (by simp only [List.map_toArray, List.map_cons, List.map_nil]; rfl) ?_
 refine (bits_calls _ _).mono ?_
 rintro e w' ⟨rfl, hww⟩
 obtain rfl : wd = w' := hww.symm
 refine ⟨_, rfl, ?_⟩
 refine hK.out _ _ hHeld (fun _ => ?_)
 clear hK K
 refine norm_ (a' := ?_) ?_ ?_
 rotate_left
 ·show Act.put _ (some 60) _ = _
  simp only [Act.put, List.setIfInBounds_toArray, List.set_cons_zero, List.set_cons_succ]
  rfl
 refine pure_ (i := 15) (N := some 65) (v := ?_) (a' := ?_) #[true, true, true, true, true, true, true, true, true, true, true, true, true, true, true, true, false, false] rfl rfl (by kernel_rfl) (fun _ _ _ h => h) (Or.inl ⟨by rfl, ?_⟩) ?_ ?_
 rotate_left
 ·intro w'
  go_simp
  with_reducible rfl
 rotate_left
 ·simp only [Act.put, List.setIfInBounds_toArray, List.set_cons_zero, List.set_cons_succ, i64_w, i32_w]
  rfl
 have hA := addV_calls R (fileR dv x5 x7 (wrap64 (8 * (x7 / 4096 + 1)))) (-1) wd okF _ (HV.out.below hbd) (by have := HO.out.N; have := HO.out.Cov; have := HO.out.Dead; have := HO.out.Above; omega)
 unfold encN at hA
 refine one_ (i := 16) (N := some 66) #[true, true, true, true, true, true, true, true, true, true, true, true, true, true, true, true, true, false] rfl rfl (by kernel_rfl) (by decide) (fun K hK => ?_)
 refine goes_ Try.func32 (by kernel_rfl) rfl #[.agg #[.slice (some ad0) R.N.length c0, .slice A1 R.L.length c1, .slice A2 R.Cov.length c2, .slice A3 R.Dead.length c3, .slice A4 R.Above.length c4, .slice A5 R.Firsts.length c5], .agg #[.int .i64 dv, .int .i64 0, .int .i64 1, .int .i64 (modeR x5), .int .i64 0, .int .i64 0, .int .i64 x7, .int .i64 (wrap64 (8 * (x7 / 4096 + 1))), .int .i64 0, .int .i64 0, .int .i64 0, .int .i64 0, .string ⟨#[]⟩], .int .i64 (-1)] (by rfl) rfl rfl (by simp only [List.map_toArray, List.map_cons, List.map_nil]; rfl) ?_
 refine (hA).mono ?_
 rintro e w2 ⟨us, rfl, hVA, hB2⟩
 refine ⟨_, rfl, ?_⟩
 refine hK.out _ _ ⟨pw_cell_below hB2 hHeld.1, pw_cell_below hB2 hHeld.2.1, pw_cell_below hB2 hHeld.2.2.1, pw_cell_below hB2 hHeld.2.2.2.1, pw_cell_below hB2 hHeld.2.2.2.2.1, pw_cell_below hB2 hHeld.2.2.2.2.2.1, pw_cell_below hB2 hHeld.2.2.2.2.2.2.1, pw_cell_below hB2 hHeld.2.2.2.2.2.2.2.1, pw_cell_below hB2 hHeld.2.2.2.2.2.2.2.2.1, pw_cell_below hB2 hHeld.2.2.2.2.2.2.2.2.2.1, pw_cell_below hB2 hHeld.2.2.2.2.2.2.2.2.2.2⟩ (fun _ => ?_)
 clear hK K hA
 obtain ⟨R1, hR1⟩ : ∃ X, X = (R.add (fileR dv x5 x7 (wrap64 (8 * (x7 / 4096 + 1)))) (-1)) := ⟨_, rfl⟩
 rw [← hR1] at hVA
 rw [HDV.out] at hR1
 obtain ⟨A0, c0, A1, c1, A2, c2, A3, c3, A4, c4, A5, c5, rfl⟩ := hVA.form
 refine norm_ (a' := ?_) ?_ ?_
 rotate_left
 ·show Act.put _ (some 66) _ = _
  simp only [Act.put, List.setIfInBounds_toArray, List.set_cons_zero, List.set_cons_succ]
  rfl
 have hbw := hbd.trans (hB2.mono (by omega))
 have hD2 := HD.out.below hbw
 obtain ⟨e0, e1, e2, e3, e4, e5⟩ := boxR_cells hD2.f
 have y0 := blk_frozen hD2.f 0
 have y1 := blk_frozen hD2.f 1
 have y2 := blk_frozen hD2.f 2
 have y3 := blk_frozen hD2.f 3
 have y4 := blk_frozen hD2.f 4
 have y5 := blk_frozen hD2.f 5
 refine last_ (i := 17) (N := none) #[true, true, true, true, true, true, true, true, true, true, true, true, true, true, true, true, true, true] rfl rfl (by kernel_rfl) (by decide) (fun K hK => ?_)
 refine skip_ (w1 := ((((((w2.setCell ⟨b, 0, none⟩ (.slice A0 R1.N.length c0)).setCell ⟨b, 1, none⟩ (.slice A1 R1.L.length c1)).setCell ⟨b, 2, none⟩ (.slice A2 R1.Cov.length c2)).setCell ⟨b, 3, none⟩ (.slice A3 R1.Dead.length c3)).setCell ⟨b, 4, none⟩ (.slice A4 R1.Above.length c4)).setCell ⟨b, 5, none⟩ (.slice A5 R1.Firsts.length c5))) (by rfl) rfl (by go_simp) ?_
 refine hK.out _ _ ?_
 clear hK K
 refine done_ (by kernel_rfl) ?_
 obtain ⟨w3, hw3⟩ : ∃ w3, w3 = ((((((w2.setCell ⟨b, 0, none⟩ (.slice A0 R1.N.length c0)).setCell ⟨b, 1, none⟩ (.slice A1 R1.L.length c1)).setCell ⟨b, 2, none⟩ (.slice A2 R1.Cov.length c2)).setCell ⟨b, 3, none⟩ (.slice A3 R1.Dead.length c3)).setCell ⟨b, 4, none⟩ (.slice A4 R1.Above.length c4)).setCell ⟨b, 5, none⟩ (.slice A5 R1.Firsts.length c5)) := ⟨_, rfl⟩
 rw [← hw3]
 have hnb : ∀ k, (okF k ∨ wd.heap.size ≤ k) → k ≠ b := fun k hk => hk.elim (HNB.out k) (fun hk => by have := HS.out; omega)
 have hnr : ∀ k, (okF k ∨ wd.heap.size ≤ k) → k ≠ b + 1 + 1 := fun k hk => hk.elim (HNR.out k) (fun hk => by have := HS.out; omega)
 have HV3 : Aside0 (RefV R1 w3 _ #[.slice A0 R1.N.length c0, .slice A1 R1.L.length c1, .slice A2 R1.Cov.length c2, .slice A3 R1.Dead.length c3, .slice A4 R1.Above.length c4, .slice A5 R1.Firsts.length c5]) := ⟨by rw [hw3]; exact ((((((hVA.set b 0 _ hnb).set b 1 _ hnb).set b 2 _ hnb).set b 3 _ hnb).set b 4 _ hnb).set b 5 _ hnb)⟩
 have HB3 : Aside0 (Below b w w3) := ⟨by rw [hw3]; exact ((((((HB.out.trans (hbw.mono (by have := HS.out; omega))).setCell (Nat.le_refl _) _).setCell (Nat.le_refl _) _).setCell (Nat.le_refl _) _).setCell (Nat.le_refl _) _).setCell (Nat.le_refl _) _).setCell (Nat.le_refl _) _⟩
 have HD3 : Aside0 (DoAt b #[.slice A0 R1.N.length c0, .slice A1 R1.L.length c1, .slice A2 R1.Cov.length c2, .slice A3 R1.Dead.length c3, .slice A4 R1.Above.length c4, .slice A5 R1.Firsts.length c5] #[.int .i64 1, .int .i64 (t1 : Int), .int .i64 x2, .string x3, .string x4, .int .i64 x5, .int .i64 x6, .int .i64 x7] w3) := ⟨by rw [hw3]; exact (((((hD2.set 0 _).set 1 _).set 2 _).set 3 _).set 4 _).set 5 _⟩
 have HS3 : Aside0 (b + 3 ≤ w3.heap.size) := ⟨by rw [hw3]; simp; have := HS.out; have := hbw.size; omega⟩
 have HLL3 : Aside0 (R1.L.length ≤ 1000000) := ⟨by rw [hR1]; exact HLL.out⟩
 have HR1 := Aside0.mk hR1
 obtain ⟨okF2, hokF2⟩ : ∃ f : Nat → Prop, f = (fun k => okF k ∨ wd.heap.size ≤ k) := ⟨_, rfl⟩
 rw [← hokF2] at HV3
 have HNB2 : Aside0 (∀ k, okF2 k → k ≠ b) := ⟨by rw [hokF2]; exact hnb⟩
 have HNR2 : Aside0 (∀ k, okF2 k → k ≠ b + 1 + 1) := ⟨by rw [hokF2]; exact hnr⟩
 have HFIN2 : Aside0 (∀ k, okF2 k → ok k ∨ b ≤ k) := ⟨by rw [hokF2]; exact fun k hk => hk.elim (HFIN.out k) (fun hk => Or.inr (by have := HS.out; omega))⟩
 clear f0 f1 f2 f3 f4 f5 q0 q1 q2 q3 q4 q5 q6 q7 r0 r1 r2 r3 r4 r5 zf0 zr0 zf1 zr1 zf2 zr2 zf3 zr3 zf4 zr4 zf5 zr5 hl0 hl1 hl2
 clear hw3 hnb hnr hVA hbw hD2 e0 e1 e2 e3 e4 e5 y0 y1 y2 y3 y4 y5 hR1 hB2 hbd hsd hHeld HV HB HD HS HLL hn0 HNB HNR HFIN hokF2
 have HV := HV3
 have HB := HB3
 have HD := HD3
 have HS := HS3
 clear HV3 HB3 HD3 HS3
 obtain ⟨f0, f1, f2, f3, f4, f5⟩ := boxR_cells HD.out.f
 obtain ⟨q0, q1, q2, q3, q4, q5, q6, q7⟩ := box_cells HD.out.c
 obtain ⟨r0, r1, r2, r3, r4, r5⟩ := boxR_cells HD.out.r
 have zf0 := blk_frozen HD.out.f 0
 have zf1 := blk_frozen HD.out.f 1
 have zf2 := blk_frozen HD.out.f 2
 have zf3 := blk_frozen HD.out.f 3
 have zf4 := blk_frozen HD.out.f 4
 have zf5 := blk_frozen HD.out.f 5
 have zr0 := blk_frozen HD.out.r 0
 have zr1 := blk_frozen HD.out.r 1
 have zr2 := blk_frozen HD.out.r 2
 have zr3 := blk_frozen HD.out.r 3
 have zr4 := blk_frozen HD.out.r 4
 have zr5 := blk_frozen HD.out.r 5
 have hl0 : b < w3.heap.size := by have := HS.out; omega
 have hl1 : b + 1 < w3.heap.size := by have := HS.out; omega
 have hl2 : b + 1 + 1 < w3.heap.size := by have := HS.out; omega
 skip
 go_wp2_with fail
 refine start_ (n := 15) (S := fun w' => w'.cell? ⟨b, 1, none⟩ = some (.slice A1 R1.L.length c1) ∧ w'.cell? ⟨b + 1, 1, none⟩ = some (.int .i64 (t1 : Int)) ∧ w'.cell? ⟨b + 1, 3, none⟩ = some (.string x3)) (ds := [14]) #[false, false, false, false, false, false, false, false, false, false, false, false, false, false, false] (by kernel_rfl) rfl rfl ⟨f1, q1, q3⟩ ?_
 intro hHeld
 obtain ⟨wd2, hwd⟩ : ∃ wd2, wd2 = w3.drew := ⟨_, rfl⟩
 rw [← hwd] at hHeld ⊢
 have hbd : Below w3.heap.size w3 wd2 := by rw [hwd]; exact below_drew (Below.refl _ _)
 have hsd : wd2.heap.size = w3.heap.size := by rw [hwd]; rfl
 clear hwd
 refine pure_ (i := 1) (N := some 117) (v := ?_) (a' := ?_) #[false, true, false, false, false, false, false, false, false, false, false, false, false, false, false] rfl rfl (by kernel_rfl) (fun _ _ _ h => h) (Or.inl ⟨by rfl, ?_⟩) ?_ ?_
 rotate_left
 ·intro w'
  go_simp
  with_reducible rfl
 rotate_left
 ·simp only [Act.put, List.setIfInBounds_toArray, List.set_cons_zero, List.set_cons_succ, i64_w, i32_w]
  rfl
 refine take_ (i := 2) (N := some 118) (v := ?_) (a' := ?_) #[false, true, true, false, false, false, false, false, false, false, false, false, false, false, false] rfl rfl (by kernel_rfl) (fun _ _ _ h => h) (Or.inl ⟨by rfl, ?_⟩) hHeld ?_ ?_
 rotate_left
 ·rintro w' ⟨s0, s1, s2⟩
  go_simp
  with_reducible rfl
 rotate_left
 ·simp only [Act.put, List.setIfInBounds_toArray, List.set_cons_zero, List.set_cons_succ, i64_w, i32_w]
  rfl
 refine pure_ (i := 4) (N := some 120) (v := ?_) (a' := ?_) #[false, true, true, false, true, false, false, false, false, false, false, false, false, false, false] rfl rfl (by kernel_rfl) (fun _ _ _ h => h) (Or.inl ⟨by rfl, ?_⟩) ?_ ?_
 rotate_left
 ·intro w'
  go_simp
  with_reducible rfl
 rotate_left
 ·simp only [Act.put, List.setIfInBounds_toArray, List.set_cons_zero, List.set_cons_succ, i64_w, i32_w]
  rfl
 refine take_ (i := 5) (N := some 121) (v := ?_) (a' := ?_) #[false, true, true, false, true, true, false, false, false, false, false, false, false, false, false] rfl rfl (by kernel_rfl) (fun _ _ _ h => h) (Or.inl ⟨by rfl, ?_⟩) hHeld ?_ ?_
 rotate_left
 ·rintro w' ⟨s0, s1, s2⟩
  go_simp
  with_reducible rfl
 rotate_left
 ·simp only [Act.put, List.setIfInBounds_toArray, List.set_cons_zero, List.set_cons_succ, i64_w, i32_w]
  rfl
 refine pure_ (i := 6) (N := some 122) (v := ?_) (a' := ?_) #[false, true, true, false, true, true, true, false, false, false, false, false, false, false, false] rfl rfl (by kernel_rfl) (fun _ _ _ h => h) (Or.inl ⟨by rfl, ?_⟩) ?_ ?_
 rotate_left
 ·intro w'
  go_simp
  with_reducible rfl
 rotate_left
 ·simp only [Act.put, List.setIfInBounds_toArray, List.set_cons_zero, List.set_cons_succ, i64_w, i32_w]
  rfl
 refine take_ (i := 7) (N := some 123) (v := ?_) (a' := ?_) #[false, true, true, false, true, true, true, true, false, false, false, false, false, false, false] rfl rfl (by kernel_rfl) (fun _ _ _ h => h) (Or.inl ⟨by rfl, ?_⟩) hHeld ?_ ?_
 rotate_left
 ·rintro w' ⟨s0, s1, s2⟩
  go_simp
  with_reducible rfl
 rotate_left
 ·simp only [Act.put, List.setIfInBounds_toArray, List.set_cons_zero, List.set_cons_succ, i64_w, i32_w]
  rfl
 refine pure_ (i := 8) (N := some 124) (v := ?_) (a' := ?_) #[false, true, true, false, true, true, true, true, true, false, false, false, false, false, false] rfl rfl (by kernel_rfl) (fun _ _ _ h => h) (Or.inl ⟨by rfl, ?_⟩) ?_ ?_
 rotate_left
 ·intro w'
  go_simp
  with_reducible rfl
 rotate_left
 ·simp only [Act.put, List.setIfInBounds_toArray, List.set_cons_zero, List.set_cons_succ, i64_w, i32_w]
  rfl
 refine pure_ (i := 9) (N := some 125) (v := ?_) (a' := ?_) #[false, true, true, false, true, true, true, true, true, true, false, false, false, false, false] rfl rfl (by kernel_rfl) (fun _ _ _ h => h) (Or.inl ⟨by rfl, ?_⟩) ?_ ?_
 rotate_left
 ·intro w'
  go_simp
  with_reducible rfl
 rotate_left
 ·simp only [Act.put, List.setIfInBounds_toArray, List.set_cons_zero, List.set_cons_succ, i64_w, i32_w]
  rfl
 refine pure_ (i := 10) (N := some 126) (v := ?_) (a' := ?_) #[false, true, true, false, true, true, true, true, true, true, true, false, false, false, false] rfl rfl (by kernel_rfl) (fun _ _ _ h => h) (Or.inl ⟨by rfl, ?_⟩) ?_ ?_
 rotate_left
 ·intro w'
  go_simp
  with_reducible rfl
 rotate_left
 ·simp only [Act.put, List.setIfInBounds_toArray, List.set_cons_zero, List.set_cons_succ, i64_w, i32_w]
  rfl
 have hCL := V_C HV.out.vs.2.1
 have hCL' := Kd.C_below hCL hbd
 have hlL : ((R1).L.length + 1) * 32 ≤ 140737488355328 := by have := HLL3.out; omega
 refine join_ (σ := Value × Value × Value) 3 #[true, true, true, true, true, true, true, true, true, true, true, true, false, false, false] (fun s => [(116, s.1), (119, s.2.1), (127, s.2.2)]) (Joined wd2 (R1).L (⟨(t1 : Int), ⟨x3, (R.N.length : Int)⟩⟩ : RItem)) ?_ ?_
 ·rintro ⟨v116, v119, s2⟩ w' ⟨gi, hs2, hR, hbi, hgi, hBJ⟩
  simp only at hs2 hR
  subst hs2
  refine norm_ (a' := ?_) ?_ ?_
  rotate_left
  ·show putAll _ _ = _
   simp only [putAll, Act.put, List.setIfInBounds_toArray, List.set_cons_zero, List.set_cons_succ]
   rfl
  refine one_ (i := 12) (N := some 128) #[true, true, true, true, true, true, true, true, true, true, true, true, true, false, false] rfl rfl (by kernel_rfl) (by decide) (fun K hK => ?_)
  refine step_C kL KM_L (w0 := wd2) wd2.heap.size (by rfl) (.tmp 119) (.tmp 127) 44 81 (.agg #[.int .i64 0, .string ⟨#[]⟩, .int .i64 0]) 32 rfl Try.underlying44 infoL rfl (by decide) (by decide) v119 (R1).L [(⟨(t1 : Int), ⟨x3, (R.N.length : Int)⟩⟩ : RItem)] (some ⟨gi, 0, none⟩) 1 1 (fun k => wd2.heap.size ≤ k ∧ k ≠ gi) (by rfl) (by rfl) hR (item_C (x := (⟨(t1 : Int), ⟨x3, (R.N.length : Int)⟩⟩ : RItem)) hbi) (fun k hk => ⟨Nat.le_trans hBJ.size hk, by have := blk_lt hbi; omega⟩) hBJ hBJ.size hlL ?_
  intro v1 w4 hR2 hB2 _
  refine hK.out _ _ ⟨pw_cell_below hB2 hHeld.1, pw_cell_below hB2 hHeld.2.1, pw_cell_below hB2 hHeld.2.2⟩ (fun _ => ?_)
  clear hK K hR hbi
  refine norm_ (a' := ?_) ?_ ?_
  rotate_left
  ·show Act.put _ (some 128) _ = _
   simp only [Act.put, List.setIfInBounds_toArray, List.set_cons_zero, List.set_cons_succ]
   rfl
  refine pure_ (i := 13) (N := some 129) (v := ?_) (a' := ?_) #[true, true, true, true, true, true, true, true, true, true, true, true, true, true, false] rfl rfl (by kernel_rfl) (fun _ _ _ h => h) (Or.inl ⟨by rfl, ?_⟩) ?_ ?_
  rotate_left
  ·intro w'
   go_simp
   with_reducible rfl
  rotate_left
  ·simp only [Act.put, List.setIfInBounds_toArray, List.set_cons_zero, List.set_cons_succ, i64_w, i32_w]
   rfl
  obtain ⟨g, cap, rfl, hgl, hgb, hgs⟩ := R_form hR2 (by simp)
  have hbw := hbd.trans (hB2.mono (by omega))
  have hf1 : w4.cell? ⟨b, 1, none⟩ = some (.slice A1 (R1).L.length c1) := pw_cell_below hbw f1
  have hz1 : w4.frozen? ⟨b, 1, none⟩ = false := by have h0 := (hbw.block b (by have := HS.out; omega)).trans HD.out.f; exact blk_frozen h0 1
  refine last_ (i := 14) (N := none) #[true, true, true, true, true, true, true, true, true, true, true, true, true, true, true] rfl rfl (by kernel_rfl) (by decide) (fun K hK => ?_)
  refine skip_ (w1 := w4.setCell ⟨b, 1, none⟩ (.slice (some ⟨g, 0, none⟩) ((R1).L ++ [(⟨(t1 : Int), ⟨x3, (R.N.length : Int)⟩⟩ : RItem)]).length cap)) (by rfl) rfl (by go_simp) ?_
  refine hK.out _ _ ?_
  clear hK K
  refine done_ (by kernel_rfl) ?_
  obtain ⟨w5, hw3⟩ : ∃ w5, w5 = w4.setCell ⟨b, 1, none⟩ (.slice (some ⟨g, 0, none⟩) ((R1).L ++ [(⟨(t1 : Int), ⟨x3, (R.N.length : Int)⟩⟩ : RItem)]).length cap) := ⟨_, rfl⟩
  rw [← hw3]
  have hws : w3.heap.size = wd2.heap.size := hsd.symm
  have hneb : ∀ k, (okF2 k ∧ k < w3.heap.size) → k ≠ b := fun k hk => HNB2.out k hk.1
  have hx := RefV.set (HV.out.bound.below hbw) b 1 (.slice (some ⟨g, 0, none⟩) ((R1).L ++ [(⟨(t1 : Int), ⟨x3, (R.N.length : Int)⟩⟩ : RItem)]).length cap) hneb
  have hxL := Kd.R_V (base' := 0) (Kd.R_far (p := ⟨b, 1, none⟩) hR2 (fun k hk => by have h1 := hk.1; have := HS.out; show k ≠ b; omega) (.slice (some ⟨g, 0, none⟩) ((R1).L ++ [(⟨(t1 : Int), ⟨x3, (R.N.length : Int)⟩⟩ : RItem)]).length cap))
  rw [← hw3] at hx hxL
  have HX3 : Aside0 (RefV ⟨(R1).N, (R1).L ++ [(⟨(t1 : Int), ⟨x3, (R.N.length : Int)⟩⟩ : RItem)], (R1).Cov, (R1).Dead, (R1).Above, (R1).Firsts⟩ w5 (fun k => okF2 k ∨ wd2.heap.size ≤ k) #[.slice A0 (R1).N.length c0, .slice (some ⟨g, 0, none⟩) ((R1).L ++ [(⟨(t1 : Int), ⟨x3, (R.N.length : Int)⟩⟩ : RItem)]).length cap, .slice A2 (R1).Cov.length c2, .slice A3 (R1).Dead.length c3, .slice A4 (R1).Above.length c4, .slice A5 (R1).Firsts.length c5]) := ⟨by
   obtain ⟨y0, y1, y2, y3, y4, y5⟩ := hx.vs
   exact ⟨_, _, _, _, _, _, rfl, V_re y0 (fun k hk => Or.inl hk.1), V_re hxL (fun k hk => Or.inr hk.1), V_re y2 (fun k hk => Or.inl hk.1), V_re y3 (fun k hk => Or.inl hk.1), V_re y4 (fun k hk => Or.inl hk.1), V_re y5 (fun k hk => Or.inl hk.1)⟩⟩
  have HB3 : Aside0 (Below b w w5) := ⟨by rw [hw3]; exact (HB.out.trans (hbw.mono (by have := HS.out; omega))).setCell (Nat.le_refl _) _⟩
  have HD3 : Aside0 (DoAt b #[.slice A0 (R1).N.length c0, .slice (some ⟨g, 0, none⟩) ((R1).L ++ [(⟨(t1 : Int), ⟨x3, (R.N.length : Int)⟩⟩ : RItem)]).length cap, .slice A2 (R1).Cov.length c2, .slice A3 (R1).Dead.length c3, .slice A4 (R1).Above.length c4, .slice A5 (R1).Firsts.length c5] #[.int .i64 1, .int .i64 (t1 : Int), .int .i64 x2, .string x3, .string x4, .int .i64 x5, .int .i64 x6, .int .i64 x7] w5) := ⟨by rw [hw3]; exact (HD.out.below hbw).set 1 _⟩
  have HS3 : Aside0 (b + 3 ≤ wd2.heap.size) := ⟨by have := HS.out; omega⟩
  have HSw : Aside0 (b + 3 ≤ w5.heap.size) := ⟨by rw [hw3]; simp; have := HS.out; have := hbw.size; omega⟩
  clear f0 f1 f2 f3 f4 f5 q0 q1 q2 q3 q4 q5 q6 q7 r0 r1 r2 r3 r4 r5 zf0 zr0 zf1 zr1 zf2 zr2 zf3 zr3 zf4 zr4 zf5 zr5 hl0 hl1 hl2
  clear hw3 hws hneb hx hxL hf1 hz1 hbw hbd hsd hHeld hR2 hB2 hBJ HB HD HS hCL hCL' hlL
  have HD := HD3
  have HS := HSw
  obtain ⟨f0, f1, f2, f3, f4, f5⟩ := boxR_cells HD.out.f
  obtain ⟨q0, q1, q2, q3, q4, q5, q6, q7⟩ := box_cells HD.out.c
  obtain ⟨r0, r1, r2, r3, r4, r5⟩ := boxR_cells HD.out.r
  have zf0 := blk_frozen HD.out.f 0
  have zf1 := blk_frozen HD.out.f 1
  have zf2 := blk_frozen HD.out.f 2
  have zf3 := blk_frozen HD.out.f 3
  have zf4 := blk_frozen HD.out.f 4
  have zf5 := blk_frozen HD.out.f 5
  have zr0 := blk_frozen HD.out.r 0
  have zr1 := blk_frozen HD.out.r 1
  have zr2 := blk_frozen HD.out.r 2
  have zr3 := blk_frozen HD.out.r 3
  have zr4 := blk_frozen HD.out.r 4
  have zr5 := blk_frozen HD.out.r 5
  have hl0 : b < w5.heap.size := by have := HS.out; omega
  have hl1 : b + 1 < w5.heap.size := by have := HS.out; omega
  have hl2 : b + 1 + 1 < w5.heap.size := by have := HS.out; omega
  go_wp2
  have hne2 : ∀ k, (okF2 k ∨ wd2.heap.size ≤ k) → k ≠ b + 1 + 1 := fun k hk => hk.elim (HNR2.out k) (fun hk => by have := HS3.out; omega)
  have hfin : ∀ k, (okF2 k ∨ wd2.heap.size ≤ k) → ok k ∨ b ≤ k := fun k hk => hk.elim (HFIN2.out k) (fun hk => Or.inr (by have := HS3.out; omega))
  have HX := HX3.out
  have HBX := HB3.out
  have hgb2 := True.intro
  have hgb5 := True.intro
  obtain rfl := HR1.out
  refine bodyPost_ret (v := .tuple #[.agg #[.slice A0 ((R.add (fileR (R.n (t1 : Int)).f0 x5 x7 (wrap64 (8 * (x7 / 4096 + 1)))) (-1))).N.length c0, .slice (some ⟨g, 0, none⟩) (((R.add (fileR (R.n (t1 : Int)).f0 x5 x7 (wrap64 (8 * (x7 / 4096 + 1)))) (-1))).L ++ [(⟨(t1 : Int), ⟨x3, (R.N.length : Int)⟩⟩ : RItem)]).length cap, .slice A2 ((R.add (fileR (R.n (t1 : Int)).f0 x5 x7 (wrap64 (8 * (x7 / 4096 + 1)))) (-1))).Cov.length c2, .slice A3 ((R.add (fileR (R.n (t1 : Int)).f0 x5 x7 (wrap64 (8 * (x7 / 4096 + 1)))) (-1))).Dead.length c3, .slice A4 ((R.add (fileR (R.n (t1 : Int)).f0 x5 x7 (wrap64 (8 * (x7 / 4096 + 1)))) (-1))).Above.length c4, .slice A5 ((R.add (fileR (R.n (t1 : Int)).f0 x5 x7 (wrap64 (8 * (x7 / 4096 + 1)))) (-1))).Firsts.length c5], .int .i64 (R.N.length : Int), .int .i64 0]) (by simp [results, Try.results19, go_sem, r0, r1, r2, r3, r4, r5, hgb2, hgb5]) rfl ⟨_, rfl, ?_, ?_⟩
  ·rw [← Hb.out]
   exact (((((((HX.set _ 0 _ hne2).set _ 1 _ hne2).set _ 2 _ hne2).set _ 3 _ hne2).set _ 4 _ hne2).set _ 5 _ hne2)).mono hfin
  ·have hge : b ≤ b + 1 + 1 := by omega
   rw [← Hb.out]
   exact ((((((HBX.setCell hge _).setCell hge _).setCell hge _).setCell hge _).setCell hge _).setCell hge _)
 ·intro hCont
  refine two_ (i := 0) (j := 11) (Ni := some 116) (Nj := some 127) #[true, true, true, false, true, true, true, true, true, true, true, false, false, false, false] #[false, true, true, false, true, true, true, true, true, true, true, true, false, false, false] rfl rfl rfl rfl (by kernel_rfl) (by decide) (by decide) (fun K hK => ?_) (fun K hK => ?_)
  ·refine value_ (v := .slice (some ⟨(wd2).heap.size, 0, none⟩) 0 0) (w1 := (wd2).alloc (.cells #[] TL)) (by rfl) rfl (by go_simp) ?_
   refine hK.out _ _ ⟨pw_cell_below (below_all _) hHeld.1, pw_cell_below (below_all _) hHeld.2.1, pw_cell_below (below_all _) hHeld.2.2⟩ (fun _ => ?_)
   clear hK K
   refine norm_ (a' := ?_) ?_ ?_
   rotate_left
   ·show Act.put _ (some 116) _ = _
    simp only [Act.put, List.setIfInBounds_toArray, List.set_cons_zero, List.set_cons_succ]
    rfl
   have hB0 : Below wd2.heap.size wd2 (wd2.alloc (.cells #[] TL)) := below_all _
   obtain ⟨wa, hwa⟩ : ∃ wa, wa = wd2.alloc (.cells #[] TL) := ⟨_, rfl⟩
   have hsa : wa.heap.size = wd2.heap.size + 1 := by rw [hwa]; simp
   have hRa : ∀ ok : Nat → Prop, (∀ k, k = wd2.heap.size → ok k) → kL.R TL wa wd2.heap.size ok (.slice (some ⟨wd2.heap.size, 0, none⟩) 0 0) [] := fun ok hok => by rw [hwa]; exact Kd.R_mono (Kd.R_reok (ok := fun k => k = wd2.heap.size) rfl (R_made kL TL wd2 (fun _ => True) (fun _ _ => trivial)) (fun k hk => by simpa [Value.ownBlock] using hk.symm)) hok
   rw [← hwa] at hB0 ⊢
   clear hwa
   refine two_ (i := 3) (j := 11) (Ni := some 119) (Nj := some 127) #[true, true, true, true, true, true, true, true, true, true, true, false, false, false, false] #[true, true, true, false, true, true, true, true, true, true, true, true, false, false, false] rfl rfl rfl rfl (by kernel_rfl) (by decide) (by decide) (fun K hK => ?_) (fun K hK => ?_)
   ·refine step_C kL KM_L (w0 := wd2) wd2.heap.size (by rfl) (.tmp 116) (.tmp 118) 44 81 (.agg #[.int .i64 0, .string ⟨#[]⟩, .int .i64 0]) 32 rfl Try.underlying44 infoL rfl (by decide) (by decide) (.slice (some ⟨wd2.heap.size, 0, none⟩) 0 0) [] (R1).L A1 _ _ (fun k => wd2.heap.size ≤ k) (by rfl) (by rfl) (hRa _ (fun k hk => by omega)) (Kd.C_below hCL' hB0) (fun k hk => by omega) hB0 hB0.size (by simp; omega) ?_
    intro v119 w4 hR2 hB2 _
    refine hK.out _ _ ⟨pw_cell_below hB2 hHeld.1, pw_cell_below hB2 hHeld.2.1, pw_cell_below hB2 hHeld.2.2⟩ (fun _ => ?_)
    clear hK K
    refine norm_ (a' := ?_) ?_ ?_
    rotate_left
    ·show Act.put _ (some 119) _ = _
     simp only [Act.put, List.setIfInBounds_toArray, List.set_cons_zero, List.set_cons_succ]
     rfl
    refine one_ (i := 11) (N := some 127) #[true, true, true, true, true, true, true, true, true, true, true, true, false, false, false] rfl rfl (by kernel_rfl) (by decide) (fun K hK => ?_)
    refine value_ (v := .slice (some ⟨(w4).heap.size, 0, none⟩) 1 1) (w1 := (w4).alloc (.cells #[.int .i64 (t1 : Int), .string x3, .int .i64 (R.N.length : Int)] TL)) (by rfl) rfl (by go_simp) ?_
    have hb3 := hB2.alloc hB2.size (.cells #[.int .i64 (t1 : Int), .string x3, .int .i64 (R.N.length : Int)] TL)
    refine hK.out _ _ ⟨pw_cell_below hb3 hHeld.1, pw_cell_below hb3 hHeld.2.1, pw_cell_below hb3 hHeld.2.2⟩ (fun _ => ?_)
    clear hK K
    exact hCont (.slice (some ⟨wd2.heap.size, 0, none⟩) 0 0, v119, .slice (some ⟨w4.heap.size, 0, none⟩) 1 1) _ ⟨w4.heap.size, rfl, Kd.R_alloc (Kd.R_mono (Kd.R_bound (by simpa using hR2)) (fun k hk => ⟨hk.1, by have := hk.2.2.1; omega⟩)) _, heap_alloc_new _ _, hB2.size, hb3⟩
   ·refine value_ (v := .slice (some ⟨(wa).heap.size, 0, none⟩) 1 1) (w1 := (wa).alloc (.cells #[.int .i64 (t1 : Int), .string x3, .int .i64 (R.N.length : Int)] TL)) (by rfl) rfl (by go_simp) ?_
    have hb3 := hB0.alloc hB0.size (.cells #[.int .i64 (t1 : Int), .string x3, .int .i64 (R.N.length : Int)] TL)
    refine hK.out _ _ ⟨pw_cell_below hb3 hHeld.1, pw_cell_below hb3 hHeld.2.1, pw_cell_below hb3 hHeld.2.2⟩ (fun _ => ?_)
    clear hK K
    refine norm_ (a' := ?_) ?_ ?_
    rotate_left
    ·show Act.put _ (some 127) _ = _
     simp only [Act.put, List.setIfInBounds_toArray, List.set_cons_zero, List.set_cons_succ]
     rfl
    have hbi := heap_alloc_new wa (.cells #[.int .i64 (t1 : Int), .string x3, .int .i64 (R.N.length : Int)] TL)
    refine one_ (i := 3) (N := some 119) #[true, true, true, true, true, true, true, true, true, true, true, true, false, false, false] rfl rfl (by kernel_rfl) (by decide) (fun K hK => ?_)
    refine step_C kL KM_L (w0 := wd2) wd2.heap.size (by rfl) (.tmp 116) (.tmp 118) 44 81 (.agg #[.int .i64 0, .string ⟨#[]⟩, .int .i64 0]) 32 rfl Try.underlying44 infoL rfl (by decide) (by decide) (.slice (some ⟨wd2.heap.size, 0, none⟩) 0 0) [] (R1).L A1 _ _ (fun k => wd2.heap.size ≤ k ∧ k ≠ wa.heap.size) (by rfl) (by rfl) (Kd.R_alloc (hRa _ (fun k hk => ⟨by omega, by omega⟩)) _) (Kd.C_below hCL' hb3) (fun k hk => by simp at hk; exact ⟨by omega, by omega⟩) hb3 hb3.size (by simp; omega) ?_
    intro v119 w4 hR2 hB2 hg2
    refine hK.out _ _ ⟨pw_cell_below hB2 hHeld.1, pw_cell_below hB2 hHeld.2.1, pw_cell_below hB2 hHeld.2.2⟩ (fun _ => ?_)
    clear hK K
    exact hCont (.slice (some ⟨wd2.heap.size, 0, none⟩) 0 0, v119, .slice (some ⟨wa.heap.size, 0, none⟩) 1 1) _ ⟨wa.heap.size, rfl, by simpa using hR2, (hg2.block _ (by simp) (by simp [Value.ownBlock]; omega)).trans hbi, by omega, hB2⟩
  ·refine value_ (v := .slice (some ⟨(wd2).heap.size, 0, none⟩) 1 1) (w1 := (wd2).alloc (.cells #[.int .i64 (t1 : Int), .string x3, .int .i64 (R.N.length : Int)] TL)) (by rfl) rfl (by go_simp) ?_
   refine hK.out _ _ ⟨pw_cell_below (below_all _) hHeld.1, pw_cell_below (below_all _) hHeld.2.1, pw_cell_below (below_all _) hHeld.2.2⟩ (fun _ => ?_)
   clear hK K
   refine norm_ (a' := ?_) ?_ ?_
   rotate_left
   ·show Act.put _ (some 127) _ = _
    simp only [Act.put, List.setIfInBounds_toArray, List.set_cons_zero, List.set_cons_succ]
    rfl
   have hB0 : Below wd2.heap.size wd2 (wd2.alloc (.cells #[.int .i64 (t1 : Int), .string x3, .int .i64 (R.N.length : Int)] TL)) := below_all _
   have hbi := heap_alloc_new wd2 (.cells #[.int .i64 (t1 : Int), .string x3, .int .i64 (R.N.length : Int)] TL)
   obtain ⟨wa, hwa⟩ : ∃ wa, wa = wd2.alloc (.cells #[.int .i64 (t1 : Int), .string x3, .int .i64 (R.N.length : Int)] TL) := ⟨_, rfl⟩
   have hsa : wa.heap.size = wd2.heap.size + 1 := by rw [hwa]; simp
   rw [← hwa] at hB0 hbi ⊢
   clear hwa
   refine one_ (i := 0) (N := some 116) #[true, true, true, false, true, true, true, true, true, true, true, true, false, false, false] rfl rfl (by kernel_rfl) (by decide) (fun K hK => ?_)
   refine value_ (v := .slice (some ⟨(wa).heap.size, 0, none⟩) 0 0) (w1 := (wa).alloc (.cells #[] TL)) (by rfl) rfl (by go_simp) ?_
   have hb3 := hB0.alloc hB0.size (.cells #[] TL)
   refine hK.out _ _ ⟨pw_cell_below hb3 hHeld.1, pw_cell_below hb3 hHeld.2.1, pw_cell_below hb3 hHeld.2.2⟩ (fun _ => ?_)
   clear hK K
   refine norm_ (a' := ?_) ?_ ?_
   rotate_left
   ·show Act.put _ (some 116) _ = _
    simp only [Act.put, List.setIfInBounds_toArray, List.set_cons_zero, List.set_cons_succ]
    rfl
   refine one_ (i := 3) (N := some 119) #[true, true, true, true, true, true, true, true, true, true, true, true, false, false, false] rfl rfl (by kernel_rfl) (by decide) (fun K hK => ?_)
   refine step_C kL KM_L (w0 := wd2) wd2.heap.size (by rfl) (.tmp 116) (.tmp 118) 44 81 (.agg #[.int .i64 0, .string ⟨#[]⟩, .int .i64 0]) 32 rfl Try.underlying44 infoL rfl (by decide) (by decide) (.slice (some ⟨wa.heap.size, 0, none⟩) 0 0) [] (R1).L A1 _ _ (fun k => wd2.heap.size ≤ k ∧ k ≠ wd2.heap.size) (by rfl) (by rfl) (Kd.R_lower (R_made kL TL wa _ (fun k hk => ⟨by omega, by omega⟩)) (by omega)) (Kd.C_below hCL' hb3) (fun k hk => by simp at hk; exact ⟨by omega, by omega⟩) hb3 hb3.size (by simp; omega) ?_
   intro v119 w4 hR2 hB2 hg2
   refine hK.out _ _ ⟨pw_cell_below hB2 hHeld.1, pw_cell_below hB2 hHeld.2.1, pw_cell_below hB2 hHeld.2.2⟩ (fun _ => ?_)
   clear hK K
   exact hCont (.slice (some ⟨wa.heap.size, 0, none⟩) 0 0, v119, .slice (some ⟨wd2.heap.size, 0, none⟩) 1 1) _ ⟨wd2.heap.size, rfl, by simpa using hR2, (hg2.block _ (by simp; omega) (by simp [Value.ownBlock]; omega)).trans ((Below.heap_alloc wa _ _ (by omega)).trans hbi), Nat.le_refl _, hB2⟩
end Go.Proofs.Ytlfldoghomnbkaa.QVfs
