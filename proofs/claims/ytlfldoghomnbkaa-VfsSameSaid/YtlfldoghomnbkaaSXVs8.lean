import Derived.Test.YtlfldoghomnbkaaSS2
-- Texts of this seat, what the claim does not reach struck out by a program.
namespace Go.Proofs.Ytlfldoghomnbkaa.QVfs
open Go.RowKit Go.Proofs.YtlfldoghomnbkaaW.PrintWords Go.Proofs.YtlfldoghomnbkaaW.PrintLast Go.Proofs.YtlfldoghomnbkaaW.PrintMore
set_option linter.unusedVariables false
set_option linter.unusedSimpArgs false
set_option maxHeartbeats 8000000 in
set_option maxRecDepth 100000 in
theorem rdo_mount (R : Ref) (c : Chg) (w : World) (vs : Array Value) (m : Nat) (ok : Nat → Prop) (h : RefV R w ok vs) (hO : R.Ok m) (hm : m ≤ 1000000) (s3 : c.f3.size ≤ 1000000) (s4 : c.f4.size ≤ 1000000) (hk : c.f0 = 7) (hE : R.wrongE c = 0) (hin : 0 ≤ c.f2 ∧ c.f2 < R.N.length) :
  Calls Try.prog 19 #[.agg vs, .agg (encC c).toArray] w fun e w' => ∃ vs', e = .returned (.tuple #[.agg vs', .int .i64 (R.N.length : Int), .int .i64 0]) ∧ RefV (⟨(R.device c.f5 (rd R.Above c.f2)).N, (R.device c.f5 (rd R.Above c.f2)).L, (R.device c.f5 (rd R.Above c.f2)).Cov.set c.f2.toNat (R.N.length : Int), (R.device c.f5 (rd R.Above c.f2)).Dead, (R.device c.f5 (rd R.Above c.f2)).Above, (R.device c.f5 (rd R.Above c.f2)).Firsts⟩) w' (fun k => ok k ∨ w.heap.size ≤ k) vs' ∧ Below w.heap.size w w' := by
 have hW := fun W (hB : Below w.heap.size w W) => refWrong_calls R c W vs m (h.below hB).at hO hm s3 s4
 rw [hE] at hW
 obtain ⟨x0, x1, x2, x3, x4, x5, x6, x7⟩ := c
 simp only at *
 subst hk
 clear hE
 obtain ⟨t2, rfl⟩ : ∃ t : Nat, x2 = t := ⟨x2.toNat, by omega⟩
 have n1 : (0 : Int) ≤ (t2 : Int) := hin.1
 have n2 : (t2 : Int) < (R.N.length : Int) := hin.2
 have n3 : (t2 : Int) < (R.Above.length : Int) := by rw [hO.Above]; exact n2
 clear hin
 have hV := h.bound
 obtain ⟨A0, c0, A1, c1, A2, c2, A3, c3, A4, c4, A5, c5, rfl⟩ := hV.form
 clear h
 obtain ⟨ad0, he0, _⟩ := Kd.at_int (V_C hV.vs.2.2.2.2.1) (t2 : Int) n1 n3
 subst he0
 have HW := Aside0.mk hW
 have HV0 := Aside0.mk hV
 have HO := Aside0.mk hO
 have HM := Aside0.mk hm
 clear hW hV hO hm
 obtain ⟨b, hb⟩ : ∃ b, b = w.heap.size := ⟨_, rfl⟩
 obtain ⟨W0, hW0⟩ : ∃ W0 : World, W0 = ((w.alloc (.cells #[.slice A0 R.N.length c0, .slice A1 R.L.length c1, .slice A2 R.Cov.length c2, .slice A3 R.Dead.length c3, .slice (some ad0) R.Above.length c4, .slice A5 R.Firsts.length c5] TR)).alloc (.cells #[.int .i64 7, .int .i64 x1, .int .i64 (t2 : Int), .string x3, .string x4, .int .i64 x5, .int .i64 x6, .int .i64 x7] TC)).alloc (.cells #[.slice none 0 0, .slice none 0 0, .slice none 0 0, .slice none 0 0, .slice none 0 0, .slice none 0 0] TR) := ⟨_, rfl⟩
 have hB0 : Below b w W0 := by rw [hW0, hb]; exact (((Below.refl _ w).alloc (Nat.le_refl _) _).alloc (by simp) _).alloc (by simp; omega) _
 have hs0 : W0.heap.size = b + 3 := by rw [hW0, hb]; simp
 have hd : DoAt b #[.slice A0 R.N.length c0, .slice A1 R.L.length c1, .slice A2 R.Cov.length c2, .slice A3 R.Dead.length c3, .slice (some ad0) R.Above.length c4, .slice A5 R.Firsts.length c5] #[.int .i64 7, .int .i64 x1, .int .i64 (t2 : Int), .string x3, .string x4, .int .i64 x5, .int .i64 x6, .int .i64 x7] W0 := by
  rw [hW0, hb]
  have e0 := heap_alloc_new w (.cells #[.slice A0 R.N.length c0, .slice A1 R.L.length c1, .slice A2 R.Cov.length c2, .slice A3 R.Dead.length c3, .slice (some ad0) R.Above.length c4, .slice A5 R.Firsts.length c5] TR)
  have e1 := heap_alloc_new (w.alloc (.cells #[.slice A0 R.N.length c0, .slice A1 R.L.length c1, .slice A2 R.Cov.length c2, .slice A3 R.Dead.length c3, .slice (some ad0) R.Above.length c4, .slice A5 R.Firsts.length c5] TR)) (.cells #[.int .i64 7, .int .i64 x1, .int .i64 (t2 : Int), .string x3, .string x4, .int .i64 x5, .int .i64 x6, .int .i64 x7] TC)
  have e2 := heap_alloc_new ((w.alloc (.cells #[.slice A0 R.N.length c0, .slice A1 R.L.length c1, .slice A2 R.Cov.length c2, .slice A3 R.Dead.length c3, .slice (some ad0) R.Above.length c4, .slice A5 R.Firsts.length c5] TR)).alloc (.cells #[.int .i64 7, .int .i64 x1, .int .i64 (t2 : Int), .string x3, .string x4, .int .i64 x5, .int .i64 x6, .int .i64 x7] TC)) (.cells #[.slice none 0 0, .slice none 0 0, .slice none 0 0, .slice none 0 0, .slice none 0 0, .slice none 0 0] TR)
  simp only [World.size_alloc] at e1 e2
  exact ⟨(Below.heap_alloc _ _ _ (by simp; omega)).trans ((Below.heap_alloc _ _ _ (by simp)).trans e0), (Below.heap_alloc _ _ _ (by simp)).trans e1, e2⟩
 have HV := Aside0.mk ((HV0.out.below (hb ▸ hB0)).mono (ok' := ok3 ok b) (fun k hk => Or.inl (hb ▸ hk)))
 have HB := Aside0.mk hB0
 have HD := Aside0.mk hd
 have HS := Aside0.mk (show b + 3 ≤ W0.heap.size by omega)
 have Hb := Aside0.mk hb
 unfold encC
 obtain ⟨f0, f1, f2, f3, f4, f5⟩ := boxR_cells HD.out.f
 obtain ⟨q0, q1, q2, q3, q4, q5, q6, q7⟩ := box_cells HD.out.c
 obtain ⟨r0, r1, r2, r3, r4, r5⟩ := boxR_cells HD.out.r
 have zf0 := blk_frozen HD.out.f 0
 have zf1 := blk_frozen HD.out.f 1
 have zf2 := blk_frozen HD.out.f 2
 have zf3 := blk_frozen HD.out.f 3
 have zf4 := blk_frozen HD.out.f 4
 have zf5 := blk_frozen HD.out.f 5
 have zr0 := blk_frozen HD.out.r 0
 have zr1 := blk_frozen HD.out.r 1
 have zr2 := blk_frozen HD.out.r 2
 have zr3 := blk_frozen HD.out.r 3
 have zr4 := blk_frozen HD.out.r 4
 have zr5 := blk_frozen HD.out.r 5
 have hl0 : b < W0.heap.size := by have := HS.out; omega
 have hl1 : b + 1 < W0.heap.size := by have := HS.out; omega
 have hl2 : b + 1 + 1 < W0.heap.size := by have := HS.out; omega
 clear hB0 hd hs0
 go_enter Try.func19, Try.ntmps19
 go_wp2_with fail
 rw [← hW0, ← hb]
 clear hW0 hb
 refine (HW.out W0 (Hb.out ▸ HB.out)).mono ?_
 rintro e w1 ⟨rfl, hb1⟩
 have HB' : Aside0 (Below b w w1) := ⟨HB.out.trans (hb1.mono (by have := HS.out; omega))⟩
 have HD' := Aside0.mk (HD.out.below hb1)
 have HV' := Aside0.mk (HV.out.below hb1)
 have HS' := Aside0.mk (Nat.le_trans HS.out hb1.size)
 clear f0 f1 f2 f3 f4 f5 q0 q1 q2 q3 q4 q5 q6 q7 r0 r1 r2 r3 r4 r5 zf0 zr0 zf1 zr1 zf2 zr2 zf3 zr3 zf4 zr4 zf5 zr5 hl0 hl1 hl2
 clear HB HD HV HS hb1
 have HB := HB'
 have HD := HD'
 have HV := HV'
 have HS := HS'
 clear HB' HD' HV' HS'
 obtain ⟨f0, f1, f2, f3, f4, f5⟩ := boxR_cells HD.out.f
 obtain ⟨q0, q1, q2, q3, q4, q5, q6, q7⟩ := box_cells HD.out.c
 obtain ⟨r0, r1, r2, r3, r4, r5⟩ := boxR_cells HD.out.r
 have zf0 := blk_frozen HD.out.f 0
 have zf1 := blk_frozen HD.out.f 1
 have zf2 := blk_frozen HD.out.f 2
 have zf3 := blk_frozen HD.out.f 3
 have zf4 := blk_frozen HD.out.f 4
 have zf5 := blk_frozen HD.out.f 5
 have zr0 := blk_frozen HD.out.r 0
 have zr1 := blk_frozen HD.out.r 1
 have zr2 := blk_frozen HD.out.r 2
 have zr3 := blk_frozen HD.out.r 3
 have zr4 := blk_frozen HD.out.r 4
 have zr5 := blk_frozen HD.out.r 5
 have hl0 : b < w1.heap.size := by have := HS.out; omega
 have hl1 : b + 1 < w1.heap.size := by have := HS.out; omega
 have hl2 : b + 1 + 1 < w1.heap.size := by have := HS.out; omega
 have HLL := Aside0.mk (Nat.le_trans HO.out.L HM.out)
 obtain ⟨okF, hokF⟩ : ∃ f : Nat → Prop, f = ok3 ok b := ⟨_, rfl⟩
 have HNB : Aside0 (∀ k, okF k → k ≠ b) := ⟨fun k hk => by rw [hokF] at hk; rcases hk with ⟨_, hk⟩ | hk <;> omega⟩
 have HNR : Aside0 (∀ k, okF k → k ≠ b + 1 + 1) := ⟨fun k hk => by rw [hokF] at hk; rcases hk with ⟨_, hk⟩ | hk <;> omega⟩
 have HFIN : Aside0 (∀ k, okF k → ok k ∨ b ≤ k) := ⟨fun k hk => by rw [hokF] at hk; rcases hk with ⟨hk, _⟩ | hk; exact Or.inl hk; exact Or.inr (by omega)⟩
 rw [← hokF] at HV
 clear hokF
 have hn0 := intR (V_C HV.out.vs.2.2.2.2.1) (t2 : Int) n1 n3
 rw [Int.toNat_natCast] at hn0
 go_wp2_with fail
 refine start_ (n := 11) (S := fun w' => w'.cell? ⟨b, 0, none⟩ = some (.slice A0 R.N.length c0) ∧ w'.cell? ⟨b, 1, none⟩ = some (.slice A1 R.L.length c1) ∧ w'.cell? ⟨b, 2, none⟩ = some (.slice A2 R.Cov.length c2) ∧ w'.cell? ⟨b, 3, none⟩ = some (.slice A3 R.Dead.length c3) ∧ w'.cell? ⟨b, 4, none⟩ = some (.slice (some ad0) R.Above.length c4) ∧ w'.cell? ⟨b, 5, none⟩ = some (.slice A5 R.Firsts.length c5) ∧ w'.cell? ⟨b + 1, 2, none⟩ = some (.int .i64 (t2 : Int)) ∧ w'.cell? ⟨b + 1, 5, none⟩ = some (.int .i64 x5) ∧ w'.cell? (ad0.add t2) = some (.int .i64 (rd R.Above (t2 : Int)))) (ds := [10]) #[false, false, false, false, false, false, false, false, false, false, false] (by kernel_rfl) rfl rfl ⟨f0, f1, f2, f3, f4, f5, q2, q5, hn0⟩ ?_
 intro hHeld
 obtain ⟨wd, hwd⟩ : ∃ wd, wd = w1.drew := ⟨_, rfl⟩
 rw [← hwd] at hHeld ⊢
 have hbd : Below w1.heap.size w1 wd := by rw [hwd]; exact below_drew (Below.refl _ _)
 have hsd : wd.heap.size = w1.heap.size := by rw [hwd]; rfl
 clear hwd
 refine take_ (i := 0) (N := some 90) (v := ?_) (a' := ?_) #[true, false, false, false, false, false, false, false, false, false, false] rfl rfl (by kernel_rfl) (fun _ _ _ h => h) (Or.inl ⟨by rfl, ?_⟩) hHeld ?_ ?_
 rotate_left
 ·rintro w' ⟨s0, s1, s2, s3, s4, s5, s6, s7, s8⟩
  go_simp
  with_reducible rfl
 rotate_left
 ·simp only [Act.put, List.setIfInBounds_toArray, List.set_cons_zero, List.set_cons_succ, i64_w, i32_w]
  rfl
 refine pure_ (i := 1) (N := some 91) (v := ?_) (a' := ?_) #[true, true, false, false, false, false, false, false, false, false, false] rfl rfl (by kernel_rfl) (fun _ _ _ h => h) (Or.inl ⟨by rfl, ?_⟩) ?_ ?_
 rotate_left
 ·intro w'
  go_simp
  with_reducible rfl
 rotate_left
 ·simp only [Act.put, List.setIfInBounds_toArray, List.set_cons_zero, List.set_cons_succ, i64_w, i32_w]
  rfl
 refine take_ (i := 2) (N := some 92) (v := ?_) (a' := ?_) #[true, true, true, false, false, false, false, false, false, false, false] rfl rfl (by kernel_rfl) (fun _ _ _ h => h) (Or.inl ⟨by rfl, ?_⟩) hHeld ?_ ?_
 rotate_left
 ·rintro w' ⟨s0, s1, s2, s3, s4, s5, s6, s7, s8⟩
  go_simp
  with_reducible rfl
 rotate_left
 ·simp only [Act.put, List.setIfInBounds_toArray, List.set_cons_zero, List.set_cons_succ, i64_w, i32_w]
  rfl
 refine pure_ (i := 3) (N := some 93) (v := ?_) (a' := ?_) #[true, true, true, true, false, false, false, false, false, false, false] rfl rfl (by kernel_rfl) (fun _ _ _ h => h) (Or.inl ⟨by rfl, ?_⟩) ?_ ?_
 rotate_left
 ·intro w'
  go_simp
  with_reducible rfl
 rotate_left
 ·simp only [Act.put, List.setIfInBounds_toArray, List.set_cons_zero, List.set_cons_succ, i64_w, i32_w]
  rfl
 refine take_ (i := 4) (N := some 94) (v := ?_) (a' := ?_) #[true, true, true, true, true, false, false, false, false, false, false] rfl rfl (by kernel_rfl) (fun _ _ _ h => h) (Or.inl ⟨by rfl, ?_⟩) hHeld ?_ ?_
 rotate_left
 ·rintro w' ⟨s0, s1, s2, s3, s4, s5, s6, s7, s8⟩
  go_simp
  with_reducible rfl
 rotate_left
 ·simp only [Act.put, List.setIfInBounds_toArray, List.set_cons_zero, List.set_cons_succ, i64_w, i32_w]
  rfl
 refine pure_ (i := 5) (N := some 95) (v := ?_) (a' := ?_) #[true, true, true, true, true, true, false, false, false, false, false] rfl rfl (by kernel_rfl) (fun _ _ _ h => h) (Or.inl ⟨by rfl, ?_⟩) ?_ ?_
 rotate_left
 ·intro w'
  go_simp
  with_reducible rfl
 rotate_left
 ·simp only [Act.put, List.setIfInBounds_toArray, List.set_cons_zero, List.set_cons_succ, i64_w, i32_w]
  rfl
 refine take_ (i := 6) (N := some 96) (v := ?_) (a' := ?_) #[true, true, true, true, true, true, true, false, false, false, false] rfl rfl (by kernel_rfl) (fun _ _ _ h => h) (Or.inl ⟨by rfl, ?_⟩) hHeld ?_ ?_
 rotate_left
 ·rintro w' ⟨s0, s1, s2, s3, s4, s5, s6, s7, s8⟩
  go_simp
  with_reducible rfl
 rotate_left
 ·simp only [Act.put, List.setIfInBounds_toArray, List.set_cons_zero, List.set_cons_succ, i64_w, i32_w]
  rfl
 refine pure_ (i := 7) (N := some 97) (v := ?_) (a' := ?_) #[true, true, true, true, true, true, true, true, false, false, false] rfl rfl (by kernel_rfl) (fun _ _ _ h => h) (Or.inl ⟨by rfl, ?_⟩) ?_ ?_
 rotate_left
 ·intro w'
  go_simp
  with_reducible rfl
 rotate_left
 ·simp only [Act.put, List.setIfInBounds_toArray, List.set_cons_zero, List.set_cons_succ, i64_w, i32_w]
  rfl
 refine take_ (i := 8) (N := some 98) (v := ?_) (a' := ?_) #[true, true, true, true, true, true, true, true, true, false, false] rfl rfl (by kernel_rfl) (fun _ _ _ h => h) (Or.inl ⟨by rfl, ?_⟩) hHeld ?_ ?_
 rotate_left
 ·rintro w' ⟨s0, s1, s2, s3, s4, s5, s6, s7, s8⟩
  go_simp
  with_reducible rfl
 rotate_left
 ·simp only [Act.put, List.setIfInBounds_toArray, List.set_cons_zero, List.set_cons_succ, i64_w, i32_w]
  rfl
 have hA := deviceV_calls R x5 (rd R.Above (t2 : Int)) wd okF _ (HV.out.below hbd) (by have := HO.out.N; have := HO.out.Cov; have := HO.out.Dead; have := HO.out.Above; omega) (by have := HO.out.N; have := HO.out.Firsts; omega)
 refine one_ (i := 9) (N := some 99) #[true, true, true, true, true, true, true, true, true, true, false] rfl rfl (by kernel_rfl) (by decide) (fun K hK => ?_)
 refine goes_ Try.func30 (by kernel_rfl) rfl #[.agg #[.slice A0 R.N.length c0, .slice A1 R.L.length c1, .slice A2 R.Cov.length c2, .slice A3 R.Dead.length c3, .slice (some ad0) R.Above.length c4, .slice A5 R.Firsts.length c5], .int .i64 x5, .int .i64 (rd R.Above (t2 : Int))] (by rfl) rfl rfl (by simp only [List.map_toArray, List.map_cons, List.map_nil]; rfl) ?_
 refine (hA).mono ?_
 rintro e w2 ⟨us, rfl, hVA, hB2⟩
 refine ⟨_, rfl, ?_⟩
 refine hK.out _ _ ⟨pw_cell_below hB2 hHeld.1, pw_cell_below hB2 hHeld.2.1, pw_cell_below hB2 hHeld.2.2.1, pw_cell_below hB2 hHeld.2.2.2.1, pw_cell_below hB2 hHeld.2.2.2.2.1, pw_cell_below hB2 hHeld.2.2.2.2.2.1, pw_cell_below hB2 hHeld.2.2.2.2.2.2.1, pw_cell_below hB2 hHeld.2.2.2.2.2.2.2.1, pw_cell_below hB2 hHeld.2.2.2.2.2.2.2.2⟩ (fun _ => ?_)
 clear hK K hA
 obtain ⟨R1, hR1⟩ : ∃ X, X = (R.device x5 (rd R.Above (t2 : Int))) := ⟨_, rfl⟩
 rw [← hR1] at hVA
 obtain ⟨A0, c0, A1, c1, A2, c2, A3, c3, A4, c4, A5, c5, rfl⟩ := hVA.form
 refine norm_ (a' := ?_) ?_ ?_
 rotate_left
 ·show Act.put _ (some 99) _ = _
  simp only [Act.put, List.setIfInBounds_toArray, List.set_cons_zero, List.set_cons_succ]
  rfl
 have hbw := hbd.trans (hB2.mono (by omega))
 have hD2 := HD.out.below hbw
 obtain ⟨e0, e1, e2, e3, e4, e5⟩ := boxR_cells hD2.f
 have y0 := blk_frozen hD2.f 0
 have y1 := blk_frozen hD2.f 1
 have y2 := blk_frozen hD2.f 2
 have y3 := blk_frozen hD2.f 3
 have y4 := blk_frozen hD2.f 4
 have y5 := blk_frozen hD2.f 5
 refine last_ (i := 10) (N := none) #[true, true, true, true, true, true, true, true, true, true, true] rfl rfl (by kernel_rfl) (by decide) (fun K hK => ?_)
 refine skip_ (w1 := ((((((w2.setCell ⟨b, 0, none⟩ (.slice A0 R1.N.length c0)).setCell ⟨b, 1, none⟩ (.slice A1 R1.L.length c1)).setCell ⟨b, 2, none⟩ (.slice A2 R1.Cov.length c2)).setCell ⟨b, 3, none⟩ (.slice A3 R1.Dead.length c3)).setCell ⟨b, 4, none⟩ (.slice A4 R1.Above.length c4)).setCell ⟨b, 5, none⟩ (.slice A5 R1.Firsts.length c5))) (by rfl) rfl (by go_simp) ?_
 refine hK.out _ _ ?_
 clear hK K
 refine done_ (by kernel_rfl) ?_
 obtain ⟨w3, hw3⟩ : ∃ w3, w3 = ((((((w2.setCell ⟨b, 0, none⟩ (.slice A0 R1.N.length c0)).setCell ⟨b, 1, none⟩ (.slice A1 R1.L.length c1)).setCell ⟨b, 2, none⟩ (.slice A2 R1.Cov.length c2)).setCell ⟨b, 3, none⟩ (.slice A3 R1.Dead.length c3)).setCell ⟨b, 4, none⟩ (.slice A4 R1.Above.length c4)).setCell ⟨b, 5, none⟩ (.slice A5 R1.Firsts.length c5)) := ⟨_, rfl⟩
 rw [← hw3]
 have hnb : ∀ k, (okF k ∨ wd.heap.size ≤ k) → k ≠ b := fun k hk => hk.elim (HNB.out k) (fun hk => by have := HS.out; omega)
 have hnr : ∀ k, (okF k ∨ wd.heap.size ≤ k) → k ≠ b + 1 + 1 := fun k hk => hk.elim (HNR.out k) (fun hk => by have := HS.out; omega)
 have HV3 : Aside0 (RefV R1 w3 _ #[.slice A0 R1.N.length c0, .slice A1 R1.L.length c1, .slice A2 R1.Cov.length c2, .slice A3 R1.Dead.length c3, .slice A4 R1.Above.length c4, .slice A5 R1.Firsts.length c5]) := ⟨by rw [hw3]; exact ((((((hVA.set b 0 _ hnb).set b 1 _ hnb).set b 2 _ hnb).set b 3 _ hnb).set b 4 _ hnb).set b 5 _ hnb)⟩
 have HB3 : Aside0 (Below b w w3) := ⟨by rw [hw3]; exact ((((((HB.out.trans (hbw.mono (by have := HS.out; omega))).setCell (Nat.le_refl _) _).setCell (Nat.le_refl _) _).setCell (Nat.le_refl _) _).setCell (Nat.le_refl _) _).setCell (Nat.le_refl _) _).setCell (Nat.le_refl _) _⟩
 have HD3 : Aside0 (DoAt b #[.slice A0 R1.N.length c0, .slice A1 R1.L.length c1, .slice A2 R1.Cov.length c2, .slice A3 R1.Dead.length c3, .slice A4 R1.Above.length c4, .slice A5 R1.Firsts.length c5] #[.int .i64 7, .int .i64 x1, .int .i64 (t2 : Int), .string x3, .string x4, .int .i64 x5, .int .i64 x6, .int .i64 x7] w3) := ⟨by rw [hw3]; exact (((((hD2.set 0 _).set 1 _).set 2 _).set 3 _).set 4 _).set 5 _⟩
 have HS3 : Aside0 (b + 3 ≤ w3.heap.size) := ⟨by rw [hw3]; simp; have := HS.out; have := hbw.size; omega⟩
 have HLL3 : Aside0 (R1.L.length ≤ 1000000) := ⟨by rw [hR1]; exact HLL.out⟩
 have HR1 := Aside0.mk hR1
 obtain ⟨okF2, hokF2⟩ : ∃ f : Nat → Prop, f = (fun k => okF k ∨ wd.heap.size ≤ k) := ⟨_, rfl⟩
 rw [← hokF2] at HV3
 have HNB2 : Aside0 (∀ k, okF2 k → k ≠ b) := ⟨by rw [hokF2]; exact hnb⟩
 have HNR2 : Aside0 (∀ k, okF2 k → k ≠ b + 1 + 1) := ⟨by rw [hokF2]; exact hnr⟩
 have HFIN2 : Aside0 (∀ k, okF2 k → ok k ∨ b ≤ k) := ⟨by rw [hokF2]; exact fun k hk => hk.elim (HFIN.out k) (fun hk => Or.inr (by have := HS.out; omega))⟩
 clear f0 f1 f2 f3 f4 f5 q0 q1 q2 q3 q4 q5 q6 q7 r0 r1 r2 r3 r4 r5 zf0 zr0 zf1 zr1 zf2 zr2 zf3 zr3 zf4 zr4 zf5 zr5 hl0 hl1 hl2
 clear hw3 hnb hnr hVA hbw hD2 e0 e1 e2 e3 e4 e5 y0 y1 y2 y3 y4 y5 hR1 hB2 hbd hsd hHeld HV HB HD HS HLL hn0 HNB HNR HFIN hokF2
 have HV := HV3
 have HB := HB3
 have HD := HD3
 have HS := HS3
 clear HV3 HB3 HD3 HS3
 have HN3 : Aside0 (R1.Cov.length = R.N.length + 1) := ⟨by rw [HR1.out]; show (R.Cov ++ [_]).length = _; rw [List.length_append, HO.out.Cov]; rfl⟩
 have n4 : (t2 : Int) < (R1.Cov.length : Int) := by have := HN3.out; omega
 have HLC : Aside0 (R1.Cov.length * 8 ≤ 140737488355328) := ⟨by have := HN3.out; have := HO.out.N; omega⟩
 have HCC := Aside0.mk (V_C HV.out.vs.2.2.1)
 obtain ⟨S3, hS3⟩ : ∃ S, S = w3.heap.size := ⟨_, rfl⟩
 have HVb := Aside0.mk HV.out.bound
 rw [← hS3] at HVb
 clear HV
 have HV := HVb
 clear HVb
 obtain ⟨f0, f1, f2, f3, f4, f5⟩ := boxR_cells HD.out.f
 obtain ⟨q0, q1, q2, q3, q4, q5, q6, q7⟩ := box_cells HD.out.c
 obtain ⟨r0, r1, r2, r3, r4, r5⟩ := boxR_cells HD.out.r
 have zf0 := blk_frozen HD.out.f 0
 have zf1 := blk_frozen HD.out.f 1
 have zf2 := blk_frozen HD.out.f 2
 have zf3 := blk_frozen HD.out.f 3
 have zf4 := blk_frozen HD.out.f 4
 have zf5 := blk_frozen HD.out.f 5
 have zr0 := blk_frozen HD.out.r 0
 have zr1 := blk_frozen HD.out.r 1
 have zr2 := blk_frozen HD.out.r 2
 have zr3 := blk_frozen HD.out.r 3
 have zr4 := blk_frozen HD.out.r 4
 have zr5 := blk_frozen HD.out.r 5
 have hl0 : b < w3.heap.size := by have := HS.out; omega
 have hl1 : b + 1 < w3.heap.size := by have := HS.out; omega
 have hl2 : b + 1 + 1 < w3.heap.size := by have := HS.out; omega
 have HS3' := Aside0.mk hS3
 clear hS3
 go_wp2_with (at_builtin; refine wp_copy kI KM_I rfl _ _ 45 3 (.int .i64 0) 8 rfl Try.underlying45 info3 rfl (by decide) (by decide) w3.heap.size rfl A2 _ _ R1.Cov rfl rfl HCC.out HLC.out ?_)
 intro v w4 hR hb4
 rw [← HS3'.out] at hR hb4
 obtain ⟨g, cap, rfl, hgl, hgb, hgs⟩ := R_form hR (by omega)
 have hbw : Below w3.heap.size w3 w4 := by rw [← HS3'.out]; exact hb4
 have hSb : b + 3 ≤ S3 := by have := HS.out; have := HS3'.out; omega
 have HB4 : Aside0 (Below b w w4) := ⟨HB.out.trans (hb4.mono (by omega))⟩
 have HD4 := Aside0.mk (HD.out.below hbw)
 have HV4 := Aside0.mk (HV.out.below hbw)
 have HS4 : Aside0 (b + 3 ≤ w4.heap.size) := ⟨by have := HS.out; have := hbw.size; omega⟩
 clear f0 f1 f2 f3 f4 f5 q0 q1 q2 q3 q4 q5 q6 q7 r0 r1 r2 r3 r4 r5 zf0 zr0 zf1 zr1 zf2 zr2 zf3 zr3 zf4 zr4 zf5 zr5 hl0 hl1 hl2
 clear HB HD HV HS HCC
 have HB := HB4
 have HD := HD4
 have HV := HV4
 have HS := HS4
 clear HB4 HD4 HV4 HS4
 have hgb0 : g ≠ b := by omega
 have hgb1 : g ≠ b + 1 := by omega
 have hgb2 : g ≠ b + 1 + 1 := by omega
 have hgb3 := hgb0.symm
 have hgb4 := hgb1.symm
 have hgb5 := hgb2.symm
 obtain ⟨f0, f1, f2, f3, f4, f5⟩ := boxR_cells HD.out.f
 obtain ⟨q0, q1, q2, q3, q4, q5, q6, q7⟩ := box_cells HD.out.c
 obtain ⟨r0, r1, r2, r3, r4, r5⟩ := boxR_cells HD.out.r
 have zf0 := blk_frozen HD.out.f 0
 have zf1 := blk_frozen HD.out.f 1
 have zf2 := blk_frozen HD.out.f 2
 have zf3 := blk_frozen HD.out.f 3
 have zf4 := blk_frozen HD.out.f 4
 have zf5 := blk_frozen HD.out.f 5
 have zr0 := blk_frozen HD.out.r 0
 have zr1 := blk_frozen HD.out.r 1
 have zr2 := blk_frozen HD.out.r 2
 have zr3 := blk_frozen HD.out.r 3
 have zr4 := blk_frozen HD.out.r 4
 have zr5 := blk_frozen HD.out.r 5
 have hl0 : b < w4.heap.size := by have := HS.out; omega
 have hl1 : b + 1 < w4.heap.size := by have := HS.out; omega
 have hl2 : b + 1 + 1 < w4.heap.size := by have := HS.out; omega
 obtain ⟨ce, hcl, hM, hcc, hfr⟩ := Kd.R_elem hR 0 (t2 : Int) n1 n4
 have hM' : ce = [.int .i64 (R1.Cov.getD (t2 : Int).toNat 0)] := hM
 subst hM'
 have k3 := hcc 0 _ rfl
 have z3 := hfr 0
 simp only [show kI.sz = 1 from rfl, Int.toNat_natCast, Nat.mul_one, Nat.add_zero] at k3 z3
 clear hcl hM hcc hfr
 have HRv := Aside0.mk hR
 clear hR hb4 hbw
 go_wp2
 have hseg := Kd.R_seg (Kd.R_far (p := ⟨b, 2, none⟩) HRv.out (fun k hk => by have h1 : S3 ≤ k := hk; show k ≠ b; omega) (.slice (some ⟨g, 0, none⟩) R1.Cov.length cap)) (t2 : Int) n1 n4 (c := [.int .i64 (R1.Cov.getD (t2 : Int).toNat 0)]) (seg := [(.int .i64 (R.N.length : Int))]) (j := 0) (x' := (R.N.length : Int)) (okp := fun k => S3 ≤ k ∧ k ≠ g) rfl
  (fun j u hj => by
   have h0 : j = 0 := by have := (List.getElem?_eq_some_iff.1 hj).1; simp at this; exact this
   subst h0
   obtain ⟨ce, _, hM, hcc, _⟩ := Kd.R_elem (Kd.R_far (p := ⟨b, 2, none⟩) HRv.out (fun k hk => by have h1 : S3 ≤ k := hk; show k ≠ b; omega) (.slice (some ⟨g, 0, none⟩) R1.Cov.length cap)) 0 (t2 : Int) n1 n4
   have hM' : ce = [.int .i64 (R1.Cov.getD (t2 : Int).toNat 0)] := hM
   subst hM'
   exact hcc 0 u hj)
  (show 0 + 1 ≤ 1 from by decide) (show kI.M _ _ _ _ [(.int .i64 (R.N.length : Int))] from rfl) (fun _ hk => hk)
 rw [show (t2 : Int).toNat * kI.sz + 0 = t2 from by simp [show kI.sz = 1 from rfl], set_one] at hseg
 have hne2 : ∀ k, (okF2 k ∨ S3 ≤ k) → k ≠ b + 1 + 1 := fun k hk => hk.elim (HNR2.out k) (fun hk => by omega)
 have hfin : ∀ k, (okF2 k ∨ S3 ≤ k) → ok k ∨ b ≤ k := fun k hk => hk.elim (HFIN2.out k) (fun hk => Or.inr (by omega))
 have HX : RefV ⟨R1.N, R1.L, R1.Cov.set (t2 : Int).toNat (R.N.length : Int), R1.Dead, R1.Above, R1.Firsts⟩ ((w4.setCell ⟨b, 2, none⟩ (.slice (some ⟨g, 0, none⟩) R1.Cov.length cap)).setCell ⟨g, t2, none⟩ (.int .i64 (R.N.length : Int))) (fun k => okF2 k ∨ S3 ≤ k) #[.slice A0 R1.N.length c0, .slice A1 R1.L.length c1, .slice (some ⟨g, 0, none⟩) R1.Cov.length cap, .slice A3 R1.Dead.length c3, .slice A4 R1.Above.length c4, .slice A5 R1.Firsts.length c5] := by
  obtain ⟨y0, y1, y2, y3, y4, y5⟩ := ((HV.out.set b 2 (.slice (some ⟨g, 0, none⟩) R1.Cov.length cap) (fun k hk => HNB2.out k hk.1)).set g t2 (.int .i64 (R.N.length : Int)) (fun k hk => by omega)).vs
  have yC := Kd.R_V (base' := 0) hseg.1
  exact ⟨_, _, _, _, _, _, rfl, V_re y0 (fun _ hk => Or.inl hk.1), V_re y1 (fun _ hk => Or.inl hk.1), V_re yC (fun _ hk => Or.inr hk), V_re y3 (fun _ hk => Or.inl hk.1), V_re y4 (fun _ hk => Or.inl hk.1), V_re y5 (fun _ hk => Or.inl hk.1)⟩
 have HBX : Below b w ((w4.setCell ⟨b, 2, none⟩ (.slice (some ⟨g, 0, none⟩) R1.Cov.length cap)).setCell ⟨g, t2, none⟩ (.int .i64 (R.N.length : Int))) := (HB.out.setCell (Nat.le_refl _) _).setCell (by show b ≤ g; omega) _
 obtain rfl := HR1.out
 refine bodyPost_ret (v := .tuple #[.agg #[.slice A0 (R.device x5 (rd R.Above (t2 : Int))).N.length c0, .slice A1 (R.device x5 (rd R.Above (t2 : Int))).L.length c1, .slice (some ⟨g, 0, none⟩) (R.device x5 (rd R.Above (t2 : Int))).Cov.length cap, .slice A3 (R.device x5 (rd R.Above (t2 : Int))).Dead.length c3, .slice A4 (R.device x5 (rd R.Above (t2 : Int))).Above.length c4, .slice A5 (R.device x5 (rd R.Above (t2 : Int))).Firsts.length c5], .int .i64 (R.N.length : Int), .int .i64 0]) (by simp [results, Try.results19, go_sem, r0, r1, r2, r3, r4, r5, hgb2, hgb5]) rfl ⟨_, rfl, ?_, ?_⟩
 ·rw [← Hb.out]
  exact (((((((HX.set _ 0 _ hne2).set _ 1 _ hne2).set _ 2 _ hne2).set _ 3 _ hne2).set _ 4 _ hne2).set _ 5 _ hne2)).mono hfin
 ·have hge : b ≤ b + 1 + 1 := by omega
  rw [← Hb.out]
  exact ((((((HBX.setCell hge _).setCell hge _).setCell hge _).setCell hge _).setCell hge _).setCell hge _)
end Go.Proofs.Ytlfldoghomnbkaa.QVfs
