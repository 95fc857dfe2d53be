import Derived.Test.YtlfldoghomnbkaaSS2
-- Texts of this seat, what the claim does not reach struck out by a program.
namespace Go.Proofs.Ytlfldoghomnbkaa.QVfs
open Go.RowKit Go.Proofs.YtlfldoghomnbkaaW.PrintWords Go.Proofs.YtlfldoghomnbkaaW.PrintLast Go.Proofs.YtlfldoghomnbkaaW.PrintMore
set_option linter.unusedVariables false
set_option linter.unusedSimpArgs false
set_option maxHeartbeats 8000000 in
set_option maxRecDepth 100000 in
theorem rdo_name (R : Ref) (c : Chg) (w : World) (vs : Array Value) (m : Nat) (ok : Nat → Prop) (h : RefV R w ok vs) (hO : R.Ok m) (hm : m ≤ 1000000) (s3 : c.f3.size ≤ 1000000) (s4 : c.f4.size ≤ 1000000) (hk : c.f0 = 2) (hE : R.wrongE c = 0) :
  Calls Try.prog 19 #[.agg vs, .agg (encC c).toArray] w fun e w' => ∃ vs', e = .returned (.tuple #[.agg vs', .int .i64 0, .int .i64 0]) ∧ RefV (⟨R.N, R.L ++ [⟨c.f1, ⟨c.f3, c.f2⟩⟩], R.Cov, R.Dead, R.Above, R.Firsts⟩) w' (fun k => ok k ∨ w.heap.size ≤ k) vs' ∧ Below w.heap.size w w' := by
 have hW := fun W (hB : Below w.heap.size w W) => refWrong_calls R c W vs m (h.below hB).at hO hm s3 s4
 rw [hE] at hW
 obtain ⟨x0, x1, x2, x3, x4, x5, x6, x7⟩ := c
 simp only at *
 subst hk
 clear hE
 have hV := h.bound
 obtain ⟨A0, c0, A1, c1, A2, c2, A3, c3, A4, c4, A5, c5, rfl⟩ := hV.form
 clear h
 have HW := Aside0.mk hW
 have HV0 := Aside0.mk hV
 have HO := Aside0.mk hO
 have HM := Aside0.mk hm
 clear hW hV hO hm
 obtain ⟨b, hb⟩ : ∃ b, b = w.heap.size := ⟨_, rfl⟩
 obtain ⟨W0, hW0⟩ : ∃ W0 : World, W0 = ((w.alloc (.cells #[.slice A0 R.N.length c0, .slice A1 R.L.length c1, .slice A2 R.Cov.length c2, .slice A3 R.Dead.length c3, .slice A4 R.Above.length c4, .slice A5 R.Firsts.length c5] TR)).alloc (.cells #[.int .i64 2, .int .i64 x1, .int .i64 x2, .string x3, .string x4, .int .i64 x5, .int .i64 x6, .int .i64 x7] TC)).alloc (.cells #[.slice none 0 0, .slice none 0 0, .slice none 0 0, .slice none 0 0, .slice none 0 0, .slice none 0 0] TR) := ⟨_, rfl⟩
 have hB0 : Below b w W0 := by rw [hW0, hb]; exact (((Below.refl _ w).alloc (Nat.le_refl _) _).alloc (by simp) _).alloc (by simp; omega) _
 have hs0 : W0.heap.size = b + 3 := by rw [hW0, hb]; simp
 have hd : DoAt b #[.slice A0 R.N.length c0, .slice A1 R.L.length c1, .slice A2 R.Cov.length c2, .slice A3 R.Dead.length c3, .slice A4 R.Above.length c4, .slice A5 R.Firsts.length c5] #[.int .i64 2, .int .i64 x1, .int .i64 x2, .string x3, .string x4, .int .i64 x5, .int .i64 x6, .int .i64 x7] W0 := by
  rw [hW0, hb]
  have e0 := heap_alloc_new w (.cells #[.slice A0 R.N.length c0, .slice A1 R.L.length c1, .slice A2 R.Cov.length c2, .slice A3 R.Dead.length c3, .slice A4 R.Above.length c4, .slice A5 R.Firsts.length c5] TR)
  have e1 := heap_alloc_new (w.alloc (.cells #[.slice A0 R.N.length c0, .slice A1 R.L.length c1, .slice A2 R.Cov.length c2, .slice A3 R.Dead.length c3, .slice A4 R.Above.length c4, .slice A5 R.Firsts.length c5] TR)) (.cells #[.int .i64 2, .int .i64 x1, .int .i64 x2, .string x3, .string x4, .int .i64 x5, .int .i64 x6, .int .i64 x7] TC)
  have e2 := heap_alloc_new ((w.alloc (.cells #[.slice A0 R.N.length c0, .slice A1 R.L.length c1, .slice A2 R.Cov.length c2, .slice A3 R.Dead.length c3, .slice A4 R.Above.length c4, .slice A5 R.Firsts.length c5] TR)).alloc (.cells #[.int .i64 2, .int .i64 x1, .int .i64 x2, .string x3, .string x4, .int .i64 x5, .int .i64 x6, .int .i64 x7] TC)) (.cells #[.slice none 0 0, .slice none 0 0, .slice none 0 0, .slice none 0 0, .slice none 0 0, .slice none 0 0] TR)
  simp only [World.size_alloc] at e1 e2
  exact ⟨(Below.heap_alloc _ _ _ (by simp; omega)).trans ((Below.heap_alloc _ _ _ (by simp)).trans e0), (Below.heap_alloc _ _ _ (by simp)).trans e1, e2⟩
 have HV := Aside0.mk ((HV0.out.below (hb ▸ hB0)).mono (ok' := ok3 ok b) (fun k hk => Or.inl (hb ▸ hk)))
 have HB := Aside0.mk hB0
 have HD := Aside0.mk hd
 have HS := Aside0.mk (show b + 3 ≤ W0.heap.size by omega)
 have Hb := Aside0.mk hb
 unfold encC
 obtain ⟨f0, f1, f2, f3, f4, f5⟩ := boxR_cells HD.out.f
 obtain ⟨q0, q1, q2, q3, q4, q5, q6, q7⟩ := box_cells HD.out.c
 obtain ⟨r0, r1, r2, r3, r4, r5⟩ := boxR_cells HD.out.r
 have zf0 := blk_frozen HD.out.f 0
 have zf1 := blk_frozen HD.out.f 1
 have zf2 := blk_frozen HD.out.f 2
 have zf3 := blk_frozen HD.out.f 3
 have zf4 := blk_frozen HD.out.f 4
 have zf5 := blk_frozen HD.out.f 5
 have zr0 := blk_frozen HD.out.r 0
 have zr1 := blk_frozen HD.out.r 1
 have zr2 := blk_frozen HD.out.r 2
 have zr3 := blk_frozen HD.out.r 3
 have zr4 := blk_frozen HD.out.r 4
 have zr5 := blk_frozen HD.out.r 5
 have hl0 : b < W0.heap.size := by have := HS.out; omega
 have hl1 : b + 1 < W0.heap.size := by have := HS.out; omega
 have hl2 : b + 1 + 1 < W0.heap.size := by have := HS.out; omega
 clear hB0 hd hs0
 go_enter Try.func19, Try.ntmps19
 go_wp2_with fail
 rw [← hW0, ← hb]
 clear hW0 hb
 refine (HW.out W0 (Hb.out ▸ HB.out)).mono ?_
 rintro e w1 ⟨rfl, hb1⟩
 have HB' : Aside0 (Below b w w1) := ⟨HB.out.trans (hb1.mono (by have := HS.out; omega))⟩
 have HD' := Aside0.mk (HD.out.below hb1)
 have HV' := Aside0.mk (HV.out.below hb1)
 have HS' := Aside0.mk (Nat.le_trans HS.out hb1.size)
 clear f0 f1 f2 f3 f4 f5 q0 q1 q2 q3 q4 q5 q6 q7 r0 r1 r2 r3 r4 r5 zf0 zr0 zf1 zr1 zf2 zr2 zf3 zr3 zf4 zr4 zf5 zr5 hl0 hl1 hl2
 clear HB HD HV HS hb1
 have HB := HB'
 have HD := HD'
 have HV := HV'
 have HS := HS'
 clear HB' HD' HV' HS'
 obtain ⟨f0, f1, f2, f3, f4, f5⟩ := boxR_cells HD.out.f
 obtain ⟨q0, q1, q2, q3, q4, q5, q6, q7⟩ := box_cells HD.out.c
 obtain ⟨r0, r1, r2, r3, r4, r5⟩ := boxR_cells HD.out.r
 have zf0 := blk_frozen HD.out.f 0
 have zf1 := blk_frozen HD.out.f 1
 have zf2 := blk_frozen HD.out.f 2
 have zf3 := blk_frozen HD.out.f 3
 have zf4 := blk_frozen HD.out.f 4
 have zf5 := blk_frozen HD.out.f 5
 have zr0 := blk_frozen HD.out.r 0
 have zr1 := blk_frozen HD.out.r 1
 have zr2 := blk_frozen HD.out.r 2
 have zr3 := blk_frozen HD.out.r 3
 have zr4 := blk_frozen HD.out.r 4
 have zr5 := blk_frozen HD.out.r 5
 have hl0 : b < w1.heap.size := by have := HS.out; omega
 have hl1 : b + 1 < w1.heap.size := by have := HS.out; omega
 have hl2 : b + 1 + 1 < w1.heap.size := by have := HS.out; omega
 have HLL := Aside0.mk (Nat.le_trans HO.out.L HM.out)
 obtain ⟨okF, hokF⟩ : ∃ f : Nat → Prop, f = ok3 ok b := ⟨_, rfl⟩
 have HNB : Aside0 (∀ k, okF k → k ≠ b) := ⟨fun k hk => by rw [hokF] at hk; rcases hk with ⟨_, hk⟩ | hk <;> omega⟩
 have HNR : Aside0 (∀ k, okF k → k ≠ b + 1 + 1) := ⟨fun k hk => by rw [hokF] at hk; rcases hk with ⟨_, hk⟩ | hk <;> omega⟩
 have HFIN : Aside0 (∀ k, okF k → ok k ∨ b ≤ k) := ⟨fun k hk => by rw [hokF] at hk; rcases hk with ⟨hk, _⟩ | hk; exact Or.inl hk; exact Or.inr (by omega)⟩
 rw [← hokF] at HV
 clear hokF
 go_wp2_with fail
 refine start_ (n := 15) (S := fun w' => w'.cell? ⟨b, 1, none⟩ = some (.slice A1 R.L.length c1) ∧ w'.cell? ⟨b + 1, 1, none⟩ = some (.int .i64 x1) ∧ w'.cell? ⟨b + 1, 3, none⟩ = some (.string x3)) (ds := [14]) #[false, false, false, false, false, false, false, false, false, false, false, false, false, false, false] (by kernel_rfl) rfl rfl ⟨f1, q1, q3⟩ ?_
 intro hHeld
 obtain ⟨wd, hwd⟩ : ∃ wd, wd = w1.drew := ⟨_, rfl⟩
 rw [← hwd] at hHeld ⊢
 have hbd : Below w1.heap.size w1 wd := by rw [hwd]; exact below_drew (Below.refl _ _)
 have hsd : wd.heap.size = w1.heap.size := by rw [hwd]; rfl
 clear hwd
 refine pure_ (i := 1) (N := some 117) (v := ?_) (a' := ?_) #[false, true, false, false, false, false, false, false, false, false, false, false, false, false, false] rfl rfl (by kernel_rfl) (fun _ _ _ h => h) (Or.inl ⟨by rfl, ?_⟩) ?_ ?_
 rotate_left
 ·intro w'
  go_simp
  with_reducible rfl
 rotate_left
 ·simp only [Act.put, List.setIfInBounds_toArray, List.set_cons_zero, List.set_cons_succ, i64_w, i32_w]
  rfl
 refine take_ (i := 2) (N := some 118) (v := ?_) (a' := ?_) #[false, true, true, false, false, false, false, false, false, false, false, false, false, false, false] rfl rfl (by kernel_rfl) (fun _ _ _ h => h) (Or.inl ⟨by rfl, ?_⟩) hHeld ?_ ?_
 rotate_left
 ·rintro w' ⟨s0, s1, s2⟩
  go_simp
  with_reducible rfl
 rotate_left
 ·simp only [Act.put, List.setIfInBounds_toArray, List.set_cons_zero, List.set_cons_succ, i64_w, i32_w]
  rfl
 refine pure_ (i := 4) (N := some 120) (v := ?_) (a' := ?_) #[false, true, true, false, true, false, false, false, false, false, false, false, false, false, false] rfl rfl (by kernel_rfl) (fun _ _ _ h => h) (Or.inl ⟨by rfl, ?_⟩) ?_ ?_
 rotate_left
 ·intro w'
  go_simp
  with_reducible rfl
 rotate_left
 ·simp only [Act.put, List.setIfInBounds_toArray, List.set_cons_zero, List.set_cons_succ, i64_w, i32_w]
  rfl
 refine take_ (i := 5) (N := some 121) (v := ?_) (a' := ?_) #[false, true, true, false, true, true, false, false, false, false, false, false, false, false, false] rfl rfl (by kernel_rfl) (fun _ _ _ h => h) (Or.inl ⟨by rfl, ?_⟩) hHeld ?_ ?_
 rotate_left
 ·rintro w' ⟨s0, s1, s2⟩
  go_simp
  with_reducible rfl
 rotate_left
 ·simp only [Act.put, List.setIfInBounds_toArray, List.set_cons_zero, List.set_cons_succ, i64_w, i32_w]
  rfl
 refine pure_ (i := 6) (N := some 122) (v := ?_) (a' := ?_) #[false, true, true, false, true, true, true, false, false, false, false, false, false, false, false] rfl rfl (by kernel_rfl) (fun _ _ _ h => h) (Or.inl ⟨by rfl, ?_⟩) ?_ ?_
 rotate_left
 ·intro w'
  go_simp
  with_reducible rfl
 rotate_left
 ·simp only [Act.put, List.setIfInBounds_toArray, List.set_cons_zero, List.set_cons_succ, i64_w, i32_w]
  rfl
 refine take_ (i := 7) (N := some 123) (v := ?_) (a' := ?_) #[false, true, true, false, true, true, true, true, false, false, false, false, false, false, false] rfl rfl (by kernel_rfl) (fun _ _ _ h => h) (Or.inl ⟨by rfl, ?_⟩) hHeld ?_ ?_
 rotate_left
 ·rintro w' ⟨s0, s1, s2⟩
  go_simp
  with_reducible rfl
 rotate_left
 ·simp only [Act.put, List.setIfInBounds_toArray, List.set_cons_zero, List.set_cons_succ, i64_w, i32_w]
  rfl
 refine pure_ (i := 8) (N := some 124) (v := ?_) (a' := ?_) #[false, true, true, false, true, true, true, true, true, false, false, false, false, false, false] rfl rfl (by kernel_rfl) (fun _ _ _ h => h) (Or.inl ⟨by rfl, ?_⟩) ?_ ?_
 rotate_left
 ·intro w'
  go_simp
  with_reducible rfl
 rotate_left
 ·simp only [Act.put, List.setIfInBounds_toArray, List.set_cons_zero, List.set_cons_succ, i64_w, i32_w]
  rfl
 refine pure_ (i := 9) (N := some 125) (v := ?_) (a' := ?_) #[false, true, true, false, true, true, true, true, true, true, false, false, false, false, false] rfl rfl (by kernel_rfl) (fun _ _ _ h => h) (Or.inl ⟨by rfl, ?_⟩) ?_ ?_
 rotate_left
 ·intro w'
  go_simp
  with_reducible rfl
 rotate_left
 ·simp only [Act.put, List.setIfInBounds_toArray, List.set_cons_zero, List.set_cons_succ, i64_w, i32_w]
  rfl
 refine pure_ (i := 10) (N := some 126) (v := ?_) (a' := ?_) #[false, true, true, false, true, true, true, true, true, true, true, false, false, false, false] rfl rfl (by kernel_rfl) (fun _ _ _ h => h) (Or.inl ⟨by rfl, ?_⟩) ?_ ?_
 rotate_left
 ·intro w'
  go_simp
  with_reducible rfl
 rotate_left
 ·simp only [Act.put, List.setIfInBounds_toArray, List.set_cons_zero, List.set_cons_succ, i64_w, i32_w]
  rfl
 have hCL := V_C HV.out.vs.2.1
 have hCL' := Kd.C_below hCL hbd
 have hlL : ((R).L.length + 1) * 32 ≤ 140737488355328 := by have := HLL.out; omega
 refine join_ (σ := Value × Value × Value) 3 #[true, true, true, true, true, true, true, true, true, true, true, true, false, false, false] (fun s => [(116, s.1), (119, s.2.1), (127, s.2.2)]) (Joined wd (R).L (⟨x1, ⟨x3, x2⟩⟩ : RItem)) ?_ ?_
 ·rintro ⟨v116, v119, s2⟩ w' ⟨gi, hs2, hR, hbi, hgi, hBJ⟩
  simp only at hs2 hR
  subst hs2
  refine norm_ (a' := ?_) ?_ ?_
  rotate_left
  ·show putAll _ _ = _
   simp only [putAll, Act.put, List.setIfInBounds_toArray, List.set_cons_zero, List.set_cons_succ]
   rfl
  refine one_ (i := 12) (N := some 128) #[true, true, true, true, true, true, true, true, true, true, true, true, true, false, false] rfl rfl (by kernel_rfl) (by decide) (fun K hK => ?_)
  refine step_C kL KM_L (w0 := wd) wd.heap.size (by rfl) (.tmp 119) (.tmp 127) 44 81 (.agg #[.int .i64 0, .string ⟨#[]⟩, .int .i64 0]) 32 rfl Try.underlying44 infoL rfl (by decide) (by decide) v119 (R).L [(⟨x1, ⟨x3, x2⟩⟩ : RItem)] (some ⟨gi, 0, none⟩) 1 1 (fun k => wd.heap.size ≤ k ∧ k ≠ gi) (by rfl) (by rfl) hR (item_C (x := (⟨x1, ⟨x3, x2⟩⟩ : RItem)) hbi) (fun k hk => ⟨Nat.le_trans hBJ.size hk, by have := blk_lt hbi; omega⟩) hBJ hBJ.size hlL ?_
  intro v1 w2 hR2 hB2 _
  refine hK.out _ _ ⟨pw_cell_below hB2 hHeld.1, pw_cell_below hB2 hHeld.2.1, pw_cell_below hB2 hHeld.2.2⟩ (fun _ => ?_)
  clear hK K hR hbi
  refine norm_ (a' := ?_) ?_ ?_
  rotate_left
  ·show Act.put _ (some 128) _ = _
   simp only [Act.put, List.setIfInBounds_toArray, List.set_cons_zero, List.set_cons_succ]
   rfl
  refine pure_ (i := 13) (N := some 129) (v := ?_) (a' := ?_) #[true, true, true, true, true, true, true, true, true, true, true, true, true, true, false] rfl rfl (by kernel_rfl) (fun _ _ _ h => h) (Or.inl ⟨by rfl, ?_⟩) ?_ ?_
  rotate_left
  ·intro w'
   go_simp
   with_reducible rfl
  rotate_left
  ·simp only [Act.put, List.setIfInBounds_toArray, List.set_cons_zero, List.set_cons_succ, i64_w, i32_w]
   rfl
  obtain ⟨g, cap, rfl, hgl, hgb, hgs⟩ := R_form hR2 (by simp)
  have hbw := hbd.trans (hB2.mono (by omega))
  have hf1 : w2.cell? ⟨b, 1, none⟩ = some (.slice A1 (R).L.length c1) := pw_cell_below hbw f1
  have hz1 : w2.frozen? ⟨b, 1, none⟩ = false := by have h0 := (hbw.block b (by have := HS.out; omega)).trans HD.out.f; exact blk_frozen h0 1
  refine last_ (i := 14) (N := none) #[true, true, true, true, true, true, true, true, true, true, true, true, true, true, true] rfl rfl (by kernel_rfl) (by decide) (fun K hK => ?_)
  refine skip_ (w1 := w2.setCell ⟨b, 1, none⟩ (.slice (some ⟨g, 0, none⟩) ((R).L ++ [(⟨x1, ⟨x3, x2⟩⟩ : RItem)]).length cap)) (by rfl) rfl (by go_simp) ?_
  refine hK.out _ _ ?_
  clear hK K
  refine done_ (by kernel_rfl) ?_
  obtain ⟨w3, hw3⟩ : ∃ w3, w3 = w2.setCell ⟨b, 1, none⟩ (.slice (some ⟨g, 0, none⟩) ((R).L ++ [(⟨x1, ⟨x3, x2⟩⟩ : RItem)]).length cap) := ⟨_, rfl⟩
  rw [← hw3]
  have hws : w1.heap.size = wd.heap.size := hsd.symm
  have hneb : ∀ k, (okF k ∧ k < w1.heap.size) → k ≠ b := fun k hk => HNB.out k hk.1
  have hx := RefV.set (HV.out.bound.below hbw) b 1 (.slice (some ⟨g, 0, none⟩) ((R).L ++ [(⟨x1, ⟨x3, x2⟩⟩ : RItem)]).length cap) hneb
  have hxL := Kd.R_V (base' := 0) (Kd.R_far (p := ⟨b, 1, none⟩) hR2 (fun k hk => by have h1 := hk.1; have := HS.out; show k ≠ b; omega) (.slice (some ⟨g, 0, none⟩) ((R).L ++ [(⟨x1, ⟨x3, x2⟩⟩ : RItem)]).length cap))
  rw [← hw3] at hx hxL
  have HX3 : Aside0 (RefV ⟨(R).N, (R).L ++ [(⟨x1, ⟨x3, x2⟩⟩ : RItem)], (R).Cov, (R).Dead, (R).Above, (R).Firsts⟩ w3 (fun k => okF k ∨ wd.heap.size ≤ k) #[.slice A0 (R).N.length c0, .slice (some ⟨g, 0, none⟩) ((R).L ++ [(⟨x1, ⟨x3, x2⟩⟩ : RItem)]).length cap, .slice A2 (R).Cov.length c2, .slice A3 (R).Dead.length c3, .slice A4 (R).Above.length c4, .slice A5 (R).Firsts.length c5]) := ⟨by
   obtain ⟨y0, y1, y2, y3, y4, y5⟩ := hx.vs
   exact ⟨_, _, _, _, _, _, rfl, V_re y0 (fun k hk => Or.inl hk.1), V_re hxL (fun k hk => Or.inr hk.1), V_re y2 (fun k hk => Or.inl hk.1), V_re y3 (fun k hk => Or.inl hk.1), V_re y4 (fun k hk => Or.inl hk.1), V_re y5 (fun k hk => Or.inl hk.1)⟩⟩
  have HB3 : Aside0 (Below b w w3) := ⟨by rw [hw3]; exact (HB.out.trans (hbw.mono (by have := HS.out; omega))).setCell (Nat.le_refl _) _⟩
  have HD3 : Aside0 (DoAt b #[.slice A0 (R).N.length c0, .slice (some ⟨g, 0, none⟩) ((R).L ++ [(⟨x1, ⟨x3, x2⟩⟩ : RItem)]).length cap, .slice A2 (R).Cov.length c2, .slice A3 (R).Dead.length c3, .slice A4 (R).Above.length c4, .slice A5 (R).Firsts.length c5] #[.int .i64 2, .int .i64 x1, .int .i64 x2, .string x3, .string x4, .int .i64 x5, .int .i64 x6, .int .i64 x7] w3) := ⟨by rw [hw3]; exact (HD.out.below hbw).set 1 _⟩
  have HS3 : Aside0 (b + 3 ≤ wd.heap.size) := ⟨by have := HS.out; omega⟩
  have HSw : Aside0 (b + 3 ≤ w3.heap.size) := ⟨by rw [hw3]; simp; have := HS.out; have := hbw.size; omega⟩
  clear f0 f1 f2 f3 f4 f5 q0 q1 q2 q3 q4 q5 q6 q7 r0 r1 r2 r3 r4 r5 zf0 zr0 zf1 zr1 zf2 zr2 zf3 zr3 zf4 zr4 zf5 zr5 hl0 hl1 hl2
  clear hw3 hws hneb hx hxL hf1 hz1 hbw hbd hsd hHeld hR2 hB2 hBJ HB HD HS hCL hCL' hlL
  have HD := HD3
  have HS := HSw
  obtain ⟨f0, f1, f2, f3, f4, f5⟩ := boxR_cells HD.out.f
  obtain ⟨q0, q1, q2, q3, q4, q5, q6, q7⟩ := box_cells HD.out.c
  obtain ⟨r0, r1, r2, r3, r4, r5⟩ := boxR_cells HD.out.r
  have zf0 := blk_frozen HD.out.f 0
  have zf1 := blk_frozen HD.out.f 1
  have zf2 := blk_frozen HD.out.f 2
  have zf3 := blk_frozen HD.out.f 3
  have zf4 := blk_frozen HD.out.f 4
  have zf5 := blk_frozen HD.out.f 5
  have zr0 := blk_frozen HD.out.r 0
  have zr1 := blk_frozen HD.out.r 1
  have zr2 := blk_frozen HD.out.r 2
  have zr3 := blk_frozen HD.out.r 3
  have zr4 := blk_frozen HD.out.r 4
  have zr5 := blk_frozen HD.out.r 5
  have hl0 : b < w3.heap.size := by have := HS.out; omega
  have hl1 : b + 1 < w3.heap.size := by have := HS.out; omega
  have hl2 : b + 1 + 1 < w3.heap.size := by have := HS.out; omega
  go_wp2
  have hne2 : ∀ k, (okF k ∨ wd.heap.size ≤ k) → k ≠ b + 1 + 1 := fun k hk => hk.elim (HNR.out k) (fun hk => by have := HS3.out; omega)
  have hfin : ∀ k, (okF k ∨ wd.heap.size ≤ k) → ok k ∨ b ≤ k := fun k hk => hk.elim (HFIN.out k) (fun hk => Or.inr (by have := HS3.out; omega))
  have HX := HX3.out
  have HBX := HB3.out
  have hgb2 := True.intro
  have hgb5 := True.intro
  refine bodyPost_ret (v := .tuple #[.agg #[.slice A0 (R).N.length c0, .slice (some ⟨g, 0, none⟩) ((R).L ++ [(⟨x1, ⟨x3, x2⟩⟩ : RItem)]).length cap, .slice A2 (R).Cov.length c2, .slice A3 (R).Dead.length c3, .slice A4 (R).Above.length c4, .slice A5 (R).Firsts.length c5], .int .i64 0, .int .i64 0]) (by simp [results, Try.results19, go_sem, r0, r1, r2, r3, r4, r5, hgb2, hgb5]) rfl ⟨_, rfl, ?_, ?_⟩
  ·rw [← Hb.out]
   exact (((((((HX.set _ 0 _ hne2).set _ 1 _ hne2).set _ 2 _ hne2).set _ 3 _ hne2).set _ 4 _ hne2).set _ 5 _ hne2)).mono hfin
  ·have hge : b ≤ b + 1 + 1 := by omega
   rw [← Hb.out]
   exact ((((((HBX.setCell hge _).setCell hge _).setCell hge _).setCell hge _).setCell hge _).setCell hge _)
 ·intro hCont
  refine two_ (i := 0) (j := 11) (Ni := some 116) (Nj := some 127) #[true, true, true, false, true, true, true, true, true, true, true, false, false, false, false] #[false, true, true, false, true, true, true, true, true, true, true, true, false, false, false] rfl rfl rfl rfl (by kernel_rfl) (by decide) (by decide) (fun K hK => ?_) (fun K hK => ?_)
  ·refine value_ (v := .slice (some ⟨(wd).heap.size, 0, none⟩) 0 0) (w1 := (wd).alloc (.cells #[] TL)) (by rfl) rfl (by go_simp) ?_
   refine hK.out _ _ ⟨pw_cell_below (below_all _) hHeld.1, pw_cell_below (below_all _) hHeld.2.1, pw_cell_below (below_all _) hHeld.2.2⟩ (fun _ => ?_)
   clear hK K
   refine norm_ (a' := ?_) ?_ ?_
   rotate_left
   ·show Act.put _ (some 116) _ = _
    simp only [Act.put, List.setIfInBounds_toArray, List.set_cons_zero, List.set_cons_succ]
    rfl
   have hB0 : Below wd.heap.size wd (wd.alloc (.cells #[] TL)) := below_all _
   obtain ⟨wa, hwa⟩ : ∃ wa, wa = wd.alloc (.cells #[] TL) := ⟨_, rfl⟩
   have hsa : wa.heap.size = wd.heap.size + 1 := by rw [hwa]; simp
   have hRa : ∀ ok : Nat → Prop, (∀ k, k = wd.heap.size → ok k) → kL.R TL wa wd.heap.size ok (.slice (some ⟨wd.heap.size, 0, none⟩) 0 0) [] := fun ok hok => by rw [hwa]; exact Kd.R_mono (Kd.R_reok (ok := fun k => k = wd.heap.size) rfl (R_made kL TL wd (fun _ => True) (fun _ _ => trivial)) (fun k hk => by simpa [Value.ownBlock] using hk.symm)) hok
   rw [← hwa] at hB0 ⊢
   clear hwa
   refine two_ (i := 3) (j := 11) (Ni := some 119) (Nj := some 127) #[true, true, true, true, true, true, true, true, true, true, true, false, false, false, false] #[true, true, true, false, true, true, true, true, true, true, true, true, false, false, false] rfl rfl rfl rfl (by kernel_rfl) (by decide) (by decide) (fun K hK => ?_) (fun K hK => ?_)
   ·refine step_C kL KM_L (w0 := wd) wd.heap.size (by rfl) (.tmp 116) (.tmp 118) 44 81 (.agg #[.int .i64 0, .string ⟨#[]⟩, .int .i64 0]) 32 rfl Try.underlying44 infoL rfl (by decide) (by decide) (.slice (some ⟨wd.heap.size, 0, none⟩) 0 0) [] (R).L A1 _ _ (fun k => wd.heap.size ≤ k) (by rfl) (by rfl) (hRa _ (fun k hk => by omega)) (Kd.C_below hCL' hB0) (fun k hk => by omega) hB0 hB0.size (by simp; omega) ?_
    intro v119 w2 hR2 hB2 _
    refine hK.out _ _ ⟨pw_cell_below hB2 hHeld.1, pw_cell_below hB2 hHeld.2.1, pw_cell_below hB2 hHeld.2.2⟩ (fun _ => ?_)
    clear hK K
    refine norm_ (a' := ?_) ?_ ?_
    rotate_left
    ·show Act.put _ (some 119) _ = _
     simp only [Act.put, List.setIfInBounds_toArray, List.set_cons_zero, List.set_cons_succ]
     rfl
    refine one_ (i := 11) (N := some 127) #[true, true, true, true, true, true, true, true, true, true, true, true, false, false, false] rfl rfl (by kernel_rfl) (by decide) (fun K hK => ?_)
    refine value_ (v := .slice (some ⟨(w2).heap.size, 0, none⟩) 1 1) (w1 := (w2).alloc (.cells #[.int .i64 x1, .string x3, .int .i64 x2] TL)) (by rfl) rfl (by go_simp) ?_
    have hb3 := hB2.alloc hB2.size (.cells #[.int .i64 x1, .string x3, .int .i64 x2] TL)
    refine hK.out _ _ ⟨pw_cell_below hb3 hHeld.1, pw_cell_below hb3 hHeld.2.1, pw_cell_below hb3 hHeld.2.2⟩ (fun _ => ?_)
    clear hK K
    exact hCont (.slice (some ⟨wd.heap.size, 0, none⟩) 0 0, v119, .slice (some ⟨w2.heap.size, 0, none⟩) 1 1) _ ⟨w2.heap.size, rfl, Kd.R_alloc (Kd.R_mono (Kd.R_bound (by simpa using hR2)) (fun k hk => ⟨hk.1, by have := hk.2.2.1; omega⟩)) _, heap_alloc_new _ _, hB2.size, hb3⟩
   ·refine value_ (v := .slice (some ⟨(wa).heap.size, 0, none⟩) 1 1) (w1 := (wa).alloc (.cells #[.int .i64 x1, .string x3, .int .i64 x2] TL)) (by rfl) rfl (by go_simp) ?_
    have hb3 := hB0.alloc hB0.size (.cells #[.int .i64 x1, .string x3, .int .i64 x2] TL)
    refine hK.out _ _ ⟨pw_cell_below hb3 hHeld.1, pw_cell_below hb3 hHeld.2.1, pw_cell_below hb3 hHeld.2.2⟩ (fun _ => ?_)
    clear hK K
    refine norm_ (a' := ?_) ?_ ?_
    rotate_left
    ·show Act.put _ (some 127) _ = _
     simp only [Act.put, List.setIfInBounds_toArray, List.set_cons_zero, List.set_cons_succ]
     rfl
    have hbi := heap_alloc_new wa (.cells #[.int .i64 x1, .string x3, .int .i64 x2] TL)
    refine one_ (i := 3) (N := some 119) #[true, true, true, true, true, true, true, true, true, true, true, true, false, false, false] rfl rfl (by kernel_rfl) (by decide) (fun K hK => ?_)
    refine step_C kL KM_L (w0 := wd) wd.heap.size (by rfl) (.tmp 116) (.tmp 118) 44 81 (.agg #[.int .i64 0, .string ⟨#[]⟩, .int .i64 0]) 32 rfl Try.underlying44 infoL rfl (by decide) (by decide) (.slice (some ⟨wd.heap.size, 0, none⟩) 0 0) [] (R).L A1 _ _ (fun k => wd.heap.size ≤ k ∧ k ≠ wa.heap.size) (by rfl) (by rfl) (Kd.R_alloc (hRa _ (fun k hk => ⟨by omega, by omega⟩)) _) (Kd.C_below hCL' hb3) (fun k hk => by simp at hk; exact ⟨by omega, by omega⟩) hb3 hb3.size (by simp; omega) ?_
    intro v119 w2 hR2 hB2 hg2
    refine hK.out _ _ ⟨pw_cell_below hB2 hHeld.1, pw_cell_below hB2 hHeld.2.1, pw_cell_below hB2 hHeld.2.2⟩ (fun _ => ?_)
    clear hK K
    exact hCont (.slice (some ⟨wd.heap.size, 0, none⟩) 0 0, v119, .slice (some ⟨wa.heap.size, 0, none⟩) 1 1) _ ⟨wa.heap.size, rfl, by simpa using hR2, (hg2.block _ (by simp) (by simp [Value.ownBlock]; omega)).trans hbi, by omega, hB2⟩
  ·refine value_ (v := .slice (some ⟨(wd).heap.size, 0, none⟩) 1 1) (w1 := (wd).alloc (.cells #[.int .i64 x1, .string x3, .int .i64 x2] TL)) (by rfl) rfl (by go_simp) ?_
   refine hK.out _ _ ⟨pw_cell_below (below_all _) hHeld.1, pw_cell_below (below_all _) hHeld.2.1, pw_cell_below (below_all _) hHeld.2.2⟩ (fun _ => ?_)
   clear hK K
   refine norm_ (a' := ?_) ?_ ?_
   rotate_left
   ·show Act.put _ (some 127) _ = _
    simp only [Act.put, List.setIfInBounds_toArray, List.set_cons_zero, List.set_cons_succ]
    rfl
   have hB0 : Below wd.heap.size wd (wd.alloc (.cells #[.int .i64 x1, .string x3, .int .i64 x2] TL)) := below_all _
   have hbi := heap_alloc_new wd (.cells #[.int .i64 x1, .string x3, .int .i64 x2] TL)
   obtain ⟨wa, hwa⟩ : ∃ wa, wa = wd.alloc (.cells #[.int .i64 x1, .string x3, .int .i64 x2] TL) := ⟨_, rfl⟩
   have hsa : wa.heap.size = wd.heap.size + 1 := by rw [hwa]; simp
   rw [← hwa] at hB0 hbi ⊢
   clear hwa
   refine one_ (i := 0) (N := some 116) #[true, true, true, false, true, true, true, true, true, true, true, true, false, false, false] rfl rfl (by kernel_rfl) (by decide) (fun K hK => ?_)
   refine value_ (v := .slice (some ⟨(wa).heap.size, 0, none⟩) 0 0) (w1 := (wa).alloc (.cells #[] TL)) (by rfl) rfl (by go_simp) ?_
   have hb3 := hB0.alloc hB0.size (.cells #[] TL)
   refine hK.out _ _ ⟨pw_cell_below hb3 hHeld.1, pw_cell_below hb3 hHeld.2.1, pw_cell_below hb3 hHeld.2.2⟩ (fun _ => ?_)
   clear hK K
   refine norm_ (a' := ?_) ?_ ?_
   rotate_left
   ·show Act.put _ (some 116) _ = _
    simp only [Act.put, List.setIfInBounds_toArray, List.set_cons_zero, List.set_cons_succ]
    rfl
   refine one_ (i := 3) (N := some 119) #[true, true, true, true, true, true, true, true, true, true, true, true, false, false, false] rfl rfl (by kernel_rfl) (by decide) (fun K hK => ?_)
   refine step_C kL KM_L (w0 := wd) wd.heap.size (by rfl) (.tmp 116) (.tmp 118) 44 81 (.agg #[.int .i64 0, .string ⟨#[]⟩, .int .i64 0]) 32 rfl Try.underlying44 infoL rfl (by decide) (by decide) (.slice (some ⟨wa.heap.size, 0, none⟩) 0 0) [] (R).L A1 _ _ (fun k => wd.heap.size ≤ k ∧ k ≠ wd.heap.size) (by rfl) (by rfl) (Kd.R_lower (R_made kL TL wa _ (fun k hk => ⟨by omega, by omega⟩)) (by omega)) (Kd.C_below hCL' hb3) (fun k hk => by simp at hk; exact ⟨by omega, by omega⟩) hb3 hb3.size (by simp; omega) ?_
   intro v119 w2 hR2 hB2 hg2
   refine hK.out _ _ ⟨pw_cell_below hB2 hHeld.1, pw_cell_below hB2 hHeld.2.1, pw_cell_below hB2 hHeld.2.2⟩ (fun _ => ?_)
   clear hK K
   exact hCont (.slice (some ⟨wa.heap.size, 0, none⟩) 0 0, v119, .slice (some ⟨wd.heap.size, 0, none⟩) 1 1) _ ⟨wd.heap.size, rfl, by simpa using hR2, (hg2.block _ (by simp; omega) (by simp [Value.ownBlock]; omega)).trans ((Below.heap_alloc wa _ _ (by omega)).trans hbi), Nat.le_refl _, hB2⟩
end Go.Proofs.Ytlfldoghomnbkaa.QVfs
