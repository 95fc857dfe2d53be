import Derived.Test.YtlfldoghomnbkaaSXVq1
-- Texts of this seat, what the claim does not reach struck out by a program.
namespace Go.Proofs.Ytlfldoghomnbkaa.QVfs
open Go.RowKit Go.Proofs.YtlfldoghomnbkaaW.PrintWords Go.Proofs.YtlfldoghomnbkaaW.PrintLast Go.Proofs.YtlfldoghomnbkaaW.PrintMore
set_option linter.unusedVariables false
set_option linter.unusedSimpArgs false
structure DvAt (b : Nat) (us : Array Value) (W : World) : Prop where
 f : W.heap[b]? = some (.cells us TR (0, 0))
 r : W.heap[b + 1]? = some (.cells zR TR (0, 0))
theorem DvAt.below {b : Nat} {us : Array Value} {W W' : World} (h : DvAt b us W) (hb : Below W.heap.size W W') : DvAt b us W' :=
 ⟨(hb.block _ (blk_lt h.f)).trans h.f, (hb.block _ (blk_lt h.r)).trans h.r⟩
theorem DvAt.setF {b : Nat} {us : Array Value} {W : World} (h : DvAt b us W) (j : Nat) (u : Value) : DvAt b (us.setIfInBounds j u) (W.setCell ⟨b, j, none⟩ u) :=
 ⟨blk_set h.f j u, blk_far h.r (p := ⟨b, j, none⟩) (show b + 1 ≠ b by omega) u⟩
def ok2 (ok : Nat → Prop) (b k : Nat) : Prop := (ok k ∧ k < b) ∨ b + 2 ≤ k
set_option maxHeartbeats 8000000 in
set_option maxRecDepth 100000 in
theorem deviceV_calls (R : Ref) (mode up : Int) (w : World) (ok : Nat → Prop) (vs : Array Value) (h : RefV R w ok vs) (hO : R.N.length ≤ 1000 ∧ R.Cov.length ≤ 1000 ∧ R.Dead.length ≤ 1000 ∧ R.Above.length ≤ 1000) (hF : R.Firsts.length ≤ 1000) :
  Calls Try.prog 30 #[.agg vs, .int .i64 mode, .int .i64 up] w fun e w' => ∃ vs', e = .returned (.agg vs') ∧ RefV (R.device mode up) w' (fun k => ok k ∨ w.heap.size ≤ k) vs' ∧ Below w.heap.size w w' := by
 have hV := h.bound
 obtain ⟨A0, c0, A1, c1, A2, c2, A3, c3, A4, c4, A5, c5, rfl⟩ := hV.form
 obtain ⟨b, hb⟩ : ∃ b, b = w.heap.size := ⟨_, rfl⟩
 obtain ⟨us, hus⟩ : ∃ us : Array Value, us = #[.slice A0 R.N.length c0, .slice A1 R.L.length c1, .slice A2 R.Cov.length c2, .slice A3 R.Dead.length c3, .slice A4 R.Above.length c4, .slice A5 R.Firsts.length c5] := ⟨_, rfl⟩
 obtain ⟨W1, hW1⟩ : ∃ W1 : World, W1 = (w.alloc (.cells us TR)).alloc (.cells zR TR) := ⟨_, rfl⟩
 have hB0 : Below w.heap.size w W1 := by rw [hW1]; exact ((Below.refl _ w).alloc (Nat.le_refl _) _).alloc (by simp) _
 have hB1 : Below b w W1 := by rw [hb]; exact hB0
 have hs1 : W1.heap.size = b + 2 := by rw [hW1, hb]; simp
 have hA : DvAt b us W1 := by
  rw [hW1, hb]
  have e0 := heap_alloc_new w (.cells us TR)
  have e1 := heap_alloc_new (w.alloc (.cells us TR)) (.cells zR TR)
  simp only [World.size_alloc] at e1
  exact ⟨(Below.heap_alloc _ _ _ (by simp)).trans e0, e1⟩
 have hV1 : RefV R W1 (ok2 ok b) us := by
  rw [hus]
  exact (hV.below hB0).mono (fun k hk => Or.inl ⟨hk.1, by rw [hb]; exact hk.2⟩)
 have HA := Aside0.mk hA
 have HV := Aside0.mk hV1
 have HB := Aside0.mk hB1
 have HS := Aside0.mk (Nat.le_of_eq hs1.symm)
 have HO := Aside0.mk hO
 have HF := Aside0.mk hF
 have Hb := Aside0.mk hb
 clear h hV hB0 hB1 hs1 hA hV1 hO hF
 subst hus
 go_enter Try.func30, Try.ntmps30
 go_wp2_with fail
 rw [← hW1, ← hb]
 clear hW1 hb
 obtain ⟨f0, f1, f2, f3, f4, f5⟩ := boxR_cells HA.out.f
 refine start_ (n := 11) (S := fun w' => w'.cell? ⟨b, 0, none⟩ = some (.slice A0 R.N.length c0) ∧ w'.cell? ⟨b, 5, none⟩ = some (.slice A5 R.Firsts.length c5)) (ds := [10]) #[false, false, false, false, false, false, false, false, false, false, false] (by kernel_rfl) rfl rfl ⟨f0, f5⟩ ?_
 intro hHeld
 obtain ⟨wd, hwd⟩ : ∃ wd, wd = W1.drew := ⟨_, rfl⟩
 rw [← hwd] at hHeld ⊢
 have hbd : Below W1.heap.size W1 wd := by rw [hwd]; exact below_drew (Below.refl _ _)
 have hsd : wd.heap.size = W1.heap.size := by rw [hwd]; rfl
 clear hwd
 refine pure_ (i := 1) (N := some 8) (v := ?_) (a' := ?_) #[false, true, false, false, false, false, false, false, false, false, false] rfl rfl (by kernel_rfl) (fun _ _ _ h => h) (Or.inl ⟨by rfl, ?_⟩) ?_ ?_
 rotate_left
 ·intro w'
  go_simp
  with_reducible rfl
 rotate_left
 ·simp only [Act.put, List.setIfInBounds_toArray, List.set_cons_zero, List.set_cons_succ, i64_w, i32_w]
  rfl
 refine take_ (i := 2) (N := some 9) (v := ?_) (a' := ?_) #[false, true, true, false, false, false, false, false, false, false, false] rfl rfl (by kernel_rfl) (fun _ _ _ h => h) (Or.inl ⟨by rfl, ?_⟩) hHeld ?_ ?_
 rotate_left
 ·rintro w' ⟨s0, s1⟩
  go_simp
  with_reducible rfl
 rotate_left
 ·simp only [Act.put, List.setIfInBounds_toArray, List.set_cons_zero, List.set_cons_succ, i64_w, i32_w]
  rfl
 refine pure_ (i := 4) (N := some 11) (v := ?_) (a' := ?_) #[false, true, true, false, true, false, false, false, false, false, false] rfl rfl (by kernel_rfl) (fun _ _ _ h => h) (Or.inl ⟨by rfl, ?_⟩) ?_ ?_
 rotate_left
 ·intro w'
  go_simp
  with_reducible rfl
 rotate_left
 ·simp only [Act.put, List.setIfInBounds_toArray, List.set_cons_zero, List.set_cons_succ, i64_w, i32_w]
  rfl
 refine take_ (i := 5) (N := some 12) (v := ?_) (a' := ?_) #[false, true, true, false, true, true, false, false, false, false, false] rfl rfl (by kernel_rfl) (fun _ _ _ h => h) (Or.inl ⟨by rfl, ?_⟩) hHeld ?_ ?_
 rotate_left
 ·rintro w' ⟨s0, s1⟩
  go_simp
  with_reducible rfl
 rotate_left
 ·simp only [Act.put, List.setIfInBounds_toArray, List.set_cons_zero, List.set_cons_succ, i64_w, i32_w]
  rfl
 refine pure_ (i := 6) (N := some 13) (v := ?_) (a' := ?_) #[false, true, true, false, true, true, true, false, false, false, false] rfl rfl (by kernel_rfl) (fun _ _ _ h => h) (Or.inl ⟨by rfl, ?_⟩) ?_ ?_
 rotate_left
 ·intro w'
  go_simp
  with_reducible rfl
 rotate_left
 ·simp only [Act.put, List.setIfInBounds_toArray, List.set_cons_zero, List.set_cons_succ, i64_w, i32_w]
  rfl
 have hCL := V_C HV.out.vs.2.2.2.2.2
 have hCL' := Kd.C_below hCL hbd
 have hlL : (R.Firsts.length + 1) * 8 ≤ 140737488355328 := by have := HF.out; omega
 refine join_ (σ := Value × Value × Value) 3 #[true, true, true, true, true, true, true, true, false, false, false] (fun s => [(7, s.1), (10, s.2.1), (14, s.2.2)]) (JoinedG kI 3 wd R.Firsts #[.int .i64 (R.N.length : Int)]) ?_ ?_
 ·rintro ⟨v7, v10, s2⟩ w' ⟨gi, hs2, hR, hbi, hgi, hBJ⟩
  simp only at hs2 hR
  subst hs2
  refine norm_ (a' := ?_) ?_ ?_
  rotate_left
  ·show putAll _ _ = _
   simp only [putAll, Act.put, List.setIfInBounds_toArray, List.set_cons_zero, List.set_cons_succ]
   rfl
  refine one_ (i := 8) (N := some 15) #[true, true, true, true, true, true, true, true, true, false, false] rfl rfl (by kernel_rfl) (by decide) (fun K hK => ?_)
  refine step_C kI KM_I (w0 := wd) wd.heap.size (by rfl) (.tmp 10) (.tmp 14) 45 3 (.int .i64 0) 8 rfl Try.underlying45 info3 rfl (by decide) (by decide) v10 R.Firsts [(R.N.length : Int)] (some ⟨gi, 0, none⟩) 1 1 (fun k => wd.heap.size ≤ k ∧ k ≠ gi) (by rfl) (by rfl) hR (one_C (d := kI) (x := (R.N.length : Int)) (cs := [.int .i64 (R.N.length : Int)]) hbi rfl) (fun k hk => ⟨Nat.le_trans hBJ.size hk, by have := blk_lt hbi; omega⟩) hBJ hBJ.size hlL ?_
  intro v1 w2 hR2 hB2 _
  refine hK.out _ _ ⟨pw_cell_below hB2 hHeld.1, pw_cell_below hB2 hHeld.2⟩ (fun _ => ?_)
  clear hK K
  clear hR hbi
  refine norm_ (a' := ?_) ?_ ?_
  rotate_left
  ·show Act.put _ (some 15) _ = _
   simp only [Act.put, List.setIfInBounds_toArray, List.set_cons_zero, List.set_cons_succ]
   rfl
  refine pure_ (i := 9) (N := some 16) (v := ?_) (a' := ?_) #[true, true, true, true, true, true, true, true, true, true, false] rfl rfl (by kernel_rfl) (fun _ _ _ h => h) (Or.inl ⟨by rfl, ?_⟩) ?_ ?_
  rotate_left
  ·intro w'
   go_simp
   with_reducible rfl
  rotate_left
  ·simp only [Act.put, List.setIfInBounds_toArray, List.set_cons_zero, List.set_cons_succ, i64_w, i32_w]
   rfl
  obtain ⟨g, cap, rfl, hgl, hgb, hgs⟩ := R_form hR2 (by simp)
  have hbw := hbd.trans (hB2.mono (by omega))
  have hf1 : w2.cell? ⟨b, 5, none⟩ = some (.slice A5 R.Firsts.length c5) := pw_cell_below hbw f5
  have hz1 : w2.frozen? ⟨b, 5, none⟩ = false := by have h0 := (hbw.block b (by have := HS.out; omega)).trans HA.out.f; exact blk_frozen h0 5
  refine last_ (i := 10) (N := none) #[true, true, true, true, true, true, true, true, true, true, true] rfl rfl (by kernel_rfl) (by decide) (fun K hK => ?_)
  refine skip_ (w1 := w2.setCell ⟨b, 5, none⟩ (.slice (some ⟨g, 0, none⟩) (R.Firsts ++ [(R.N.length : Int)]).length cap)) (by rfl) rfl (by go_simp) ?_
  refine hK.out _ _ ?_
  clear hK K
  refine done_ (by kernel_rfl) ?_
  obtain ⟨w3, hw3⟩ : ∃ w3, w3 = w2.setCell ⟨b, 5, none⟩ (.slice (some ⟨g, 0, none⟩) (R.Firsts ++ [(R.N.length : Int)]).length cap) := ⟨_, rfl⟩
  rw [← hw3]
  have hneb : ∀ k, (ok2 ok b k ∧ k < W1.heap.size) → k ≠ b := fun k hk => by rcases hk.1 with ⟨_, q⟩ | q <;> omega
  have hx := RefV.set (HV.out.bound.below hbw) b 5 (.slice (some ⟨g, 0, none⟩) (R.Firsts ++ [(R.N.length : Int)]).length cap) hneb
  have hxN := Kd.R_V (base' := 0) (Kd.R_far (p := ⟨b, 5, none⟩) hR2 (fun k hk => by have h1 := hk.1; have := HS.out; show k ≠ b; omega) (.slice (some ⟨g, 0, none⟩) (R.Firsts ++ [(R.N.length : Int)]).length cap))
  have hA3 := (HA.out.below hbw).setF 5 (.slice (some ⟨g, 0, none⟩) (R.Firsts ++ [(R.N.length : Int)]).length cap)
  have hB3 : Below b w w3 := by rw [hw3]; exact (HB.out.trans (hbw.mono (by have := HS.out; omega))).setCell (Nat.le_refl _) _
  have hS3 : b + 2 ≤ w3.heap.size := by rw [hw3]; simp; have := HS.out; have := hbw.size; omega
  rw [← hw3] at hx hxN hA3
  clear hw3
  have hX : RefV R.firstOf w3 (fun k => (ok2 ok b k ∧ k < W1.heap.size) ∨ wd.heap.size ≤ k) #[.slice A0 R.N.length c0, .slice A1 R.L.length c1, .slice A2 R.Cov.length c2, .slice A3 R.Dead.length c3, .slice A4 R.Above.length c4, .slice (some ⟨g, 0, none⟩) (R.Firsts ++ [(R.N.length : Int)]).length cap] := (hx.mono (fun k hk => Or.inl hk)).rowF (V_re hxN (fun k hk => Or.inr hk.1))
  obtain ⟨okA, hokA⟩ : ∃ f : Nat → Prop, f = (fun k => (ok2 ok b k ∧ k < W1.heap.size) ∨ wd.heap.size ≤ k) := ⟨_, rfl⟩
  have HOK : Aside0 (∀ k, okA k → (ok k ∨ b ≤ k) ∧ (k < b ∨ b + 2 ≤ k)) := ⟨fun k hk => by rw [hokA] at hk; have := HS.out; rcases hk with ⟨hk, _⟩ | hk; rcases hk with ⟨h1, h2⟩ | h2; exact ⟨Or.inl h1, Or.inl h2⟩; exact ⟨Or.inr (by omega), Or.inr h2⟩; exact ⟨Or.inr (by omega), Or.inr (by omega)⟩⟩
  rw [← hokA] at hX
  obtain ⟨L5, hL5⟩ : ∃ L : Nat, L = (R.Firsts ++ [(R.N.length : Int)]).length := ⟨_, rfl⟩
  have HL5 := Aside0.mk hL5
  rw [← hL5] at hX hA3
  have HX := Aside0.mk hX
  have HA3 := Aside0.mk hA3
  have HB3 := Aside0.mk hB3
  have HS3 := Aside0.mk hS3
  clear hokA hX hA3 hB3 hS3 hx hxN hf1 hz1 hbw hbd hsd hHeld hR2 hB2 hBJ hCL hCL' hlL hgl hgb hgs hneb hL5 HV HB HS HA f0 f1 f2 f3 f4 f5
  clear hgi
  clear wd
  obtain ⟨f0, f1, f2, f3, f4, f5⟩ := boxR_cells HA3.out.f
  obtain ⟨r0, r1, r2, r3, r4, r5⟩ := boxR_cells HA3.out.r
  have zr0 := blk_frozen HA3.out.r 0
  have zr1 := blk_frozen HA3.out.r 1
  have zr2 := blk_frozen HA3.out.r 2
  have zr3 := blk_frozen HA3.out.r 3
  have zr4 := blk_frozen HA3.out.r 4
  have zr5 := blk_frozen HA3.out.r 5
  go_wp2_with fail
  refine start_ (n := 10) (S := fun w' => w'.cell? ⟨b, 0, none⟩ = some (.slice A0 R.N.length c0) ∧ w'.cell? ⟨b, 1, none⟩ = some (.slice A1 R.L.length c1) ∧ w'.cell? ⟨b, 2, none⟩ = some (.slice A2 R.Cov.length c2) ∧ w'.cell? ⟨b, 3, none⟩ = some (.slice A3 R.Dead.length c3) ∧ w'.cell? ⟨b, 4, none⟩ = some (.slice A4 R.Above.length c4) ∧ w'.cell? ⟨b, 5, none⟩ = some (.slice (some ⟨g, 0, none⟩) L5 cap)) (ds := [9]) #[false, false, false, false, false, false, false, false, false, false] (by kernel_rfl) rfl rfl ⟨f0, f1, f2, f3, f4, f5⟩ ?_
  intro hHeld
  obtain ⟨wd, hwd⟩ : ∃ wd, wd = w3.drew := ⟨_, rfl⟩
  rw [← hwd] at hHeld ⊢
  have hbd : Below w3.heap.size w3 wd := by rw [hwd]; exact below_drew (Below.refl _ _)
  have hsd : wd.heap.size = w3.heap.size := by rw [hwd]; rfl
  clear hwd
  refine take_ (i := 0) (N := some 17) (v := ?_) (a' := ?_) #[true, false, false, false, false, false, false, false, false, false] rfl rfl (by kernel_rfl) (fun _ _ _ h => h) (Or.inl ⟨by rfl, ?_⟩) hHeld ?_ ?_
  rotate_left
  ·rintro w' ⟨s0, s1, s2, s3, s4, s5⟩
   go_simp
   with_reducible rfl
  rotate_left
  ·simp only [Act.put, List.setIfInBounds_toArray, List.set_cons_zero, List.set_cons_succ, i64_w, i32_w]
   rfl
  refine pure_ (i := 1) (N := some 18) (v := ?_) (a' := ?_) #[true, true, false, false, false, false, false, false, false, false] rfl rfl (by kernel_rfl) (fun _ _ _ h => h) (Or.inl ⟨by rfl, ?_⟩) ?_ ?_
  rotate_left
  ·intro w'
   go_simp
   with_reducible rfl
  rotate_left
  ·simp only [Act.put, List.setIfInBounds_toArray, List.set_cons_zero, List.set_cons_succ, i64_w, i32_w]
   rfl
  refine take_ (i := 2) (N := some 19) (v := ?_) (a' := ?_) #[true, true, true, false, false, false, false, false, false, false] rfl rfl (by kernel_rfl) (fun _ _ _ h => h) (Or.inl ⟨by rfl, ?_⟩) hHeld ?_ ?_
  rotate_left
  ·rintro w' ⟨s0, s1, s2, s3, s4, s5⟩
   go_simp
   with_reducible rfl
  rotate_left
  ·simp only [Act.put, List.setIfInBounds_toArray, List.set_cons_zero, List.set_cons_succ, i64_w, i32_w]
   rfl
  refine pure_ (i := 3) (N := some 20) (v := ?_) (a' := ?_) #[true, true, true, true, false, false, false, false, false, false] rfl rfl (by kernel_rfl) (fun _ _ _ h => h) (Or.inl ⟨by rfl, ?_⟩) ?_ ?_
  rotate_left
  ·intro w'
   go_simp
   with_reducible rfl
  rotate_left
  ·simp only [Act.put, List.setIfInBounds_toArray, List.set_cons_zero, List.set_cons_succ, i64_w, i32_w]
   rfl
  refine pure_ (i := 4) (N := some 21) (v := ?_) (a' := ?_) #[true, true, true, true, true, false, false, false, false, false] rfl rfl (by kernel_rfl) (fun _ _ _ h => h) (Or.inl ⟨by rfl, ?_⟩) ?_ ?_
  rotate_left
  ·intro w'
   go_simp
   with_reducible rfl
  rotate_left
  ·simp only [Act.put, List.setIfInBounds_toArray, List.set_cons_zero, List.set_cons_succ, i64_w, i32_w]
   rfl
  refine pure_ (i := 7) (N := some 24) (v := ?_) (a' := ?_) #[true, true, true, true, true, false, false, true, false, false] rfl rfl (by kernel_rfl) (fun _ _ _ h => h) (Or.inl ⟨by rfl, ?_⟩) ?_ ?_
  rotate_left
  ·intro w'
   go_simp
   with_reducible rfl
  rotate_left
  ·simp only [Act.put, List.setIfInBounds_toArray, List.set_cons_zero, List.set_cons_succ, i64_w, i32_w]
   rfl
  refine one_ (i := 5) (N := some 22) #[true, true, true, true, true, true, false, true, false, false] rfl rfl (by kernel_rfl) (by decide) (fun K hK => ?_)
  refine goes_ Try.func33 (by kernel_rfl) rfl #[.int .i64 mode] (by rfl) rfl rfl (by simp only [List.map_toArray, List.map_cons, List.map_nil]; rfl) ?_
  refine (bits_calls _ _).mono ?_
  rintro e w' ⟨rfl, hww⟩
  obtain rfl : wd = w' := hww.symm
  refine ⟨_, rfl, ?_⟩
  refine hK.out _ _ hHeld (fun _ => ?_)
  clear hK K
  refine norm_ (a' := ?_) ?_ ?_
  rotate_left
  ·show Act.put _ (some 22) _ = _
   simp only [Act.put, List.setIfInBounds_toArray, List.set_cons_zero, List.set_cons_succ]
   rfl
  refine pure_ (i := 6) (N := some 23) (v := ?_) (a' := ?_) #[true, true, true, true, true, true, true, true, false, false] rfl rfl (by kernel_rfl) (fun _ _ _ h => h) (Or.inl ⟨by rfl, ?_⟩) ?_ ?_
  rotate_left
  ·intro w'
   go_simp
   with_reducible rfl
  rotate_left
  ·simp only [Act.put, List.setIfInBounds_toArray, List.set_cons_zero, List.set_cons_succ, i64_w, i32_w]
   rfl
  have hAd := addV_calls R.firstOf (dirR (L5 : Int) mode) up wd okA _ (HX.out.below hbd) HO.out
  unfold encN at hAd
  refine one_ (i := 8) (N := some 25) #[true, true, true, true, true, true, true, true, true, false] rfl rfl (by kernel_rfl) (by decide) (fun K hK => ?_)
  refine goes_ Try.func32 (by kernel_rfl) rfl #[.agg #[.slice A0 R.N.length c0, .slice A1 R.L.length c1, .slice A2 R.Cov.length c2, .slice A3 R.Dead.length c3, .slice A4 R.Above.length c4, .slice (some ⟨g, 0, none⟩) L5 cap], .agg #[.int .i64 (L5 : Int), .int .i64 0, .int .i64 2, .int .i64 (modeR mode), .int .i64 0, .int .i64 0, .int .i64 4096, .int .i64 8, .int .i64 0, .int .i64 0, .int .i64 0, .int .i64 0, .string ⟨#[]⟩], .int .i64 up] (by rfl) rfl rfl (by simp only [List.map_toArray, List.map_cons, List.map_nil]; rfl) ?_
  refine (hAd).mono ?_
  rintro e w4 ⟨ys, rfl, hVA, hB4⟩
  refine ⟨_, rfl, ?_⟩
  refine hK.out _ _ ⟨pw_cell_below hB4 hHeld.1, pw_cell_below hB4 hHeld.2.1, pw_cell_below hB4 hHeld.2.2.1, pw_cell_below hB4 hHeld.2.2.2.1, pw_cell_below hB4 hHeld.2.2.2.2.1, pw_cell_below hB4 hHeld.2.2.2.2.2⟩ (fun _ => ?_)
  clear hK K
  clear hAd
  obtain ⟨E0, d0, E1, d1, E2, d2, E3, d3, E4, d4, E5, d5, rfl⟩ := hVA.form
  refine norm_ (a' := ?_) ?_ ?_
  rotate_left
  ·show Act.put _ (some 25) _ = _
   simp only [Act.put, List.setIfInBounds_toArray, List.set_cons_zero, List.set_cons_succ]
   rfl
  have hbw := hbd.trans (hB4.mono (by omega))
  have hD2 := HA3.out.below hbw
  obtain ⟨e0, e1, e2, e3, e4, e5⟩ := boxR_cells hD2.r
  have y0 := blk_frozen hD2.r 0
  have y1 := blk_frozen hD2.r 1
  have y2 := blk_frozen hD2.r 2
  have y3 := blk_frozen hD2.r 3
  have y4 := blk_frozen hD2.r 4
  have y5 := blk_frozen hD2.r 5
  refine last_ (i := 9) (N := none) #[true, true, true, true, true, true, true, true, true, true] rfl rfl (by kernel_rfl) (by decide) (fun K hK => ?_)
  refine skip_ (w1 := ((((((w4.setCell ⟨b + 1, 0, none⟩ (.slice E0 (R.firstOf.add (dirR (L5 : Int) mode) up).N.length d0)).setCell ⟨b + 1, 1, none⟩ (.slice E1 (R.firstOf.add (dirR (L5 : Int) mode) up).L.length d1)).setCell ⟨b + 1, 2, none⟩ (.slice E2 (R.firstOf.add (dirR (L5 : Int) mode) up).Cov.length d2)).setCell ⟨b + 1, 3, none⟩ (.slice E3 (R.firstOf.add (dirR (L5 : Int) mode) up).Dead.length d3)).setCell ⟨b + 1, 4, none⟩ (.slice E4 (R.firstOf.add (dirR (L5 : Int) mode) up).Above.length d4)).setCell ⟨b + 1, 5, none⟩ (.slice E5 (R.firstOf.add (dirR (L5 : Int) mode) up).Firsts.length d5))) (by rfl) rfl (by go_simp) ?_
  refine hK.out _ _ ?_
  clear hK K
  refine done_ (by kernel_rfl) ?_
  clear f0 f1 f2 f3 f4 f5 r0 r1 r2 r3 r4 r5 zr0 zr1 zr2 zr3 zr4 zr5
  have hne : ∀ k, (okA k ∨ wd.heap.size ≤ k) → k ≠ b + 1 := fun k hk => by have := HS3.out; rcases hk with hk | hk; have := (HOK.out k hk).2; omega; omega
  have hx := ((((((hVA.set _ 0 (.slice E0 (R.firstOf.add (dirR (L5 : Int) mode) up).N.length d0) hne).set _ 1 (.slice E1 (R.firstOf.add (dirR (L5 : Int) mode) up).L.length d1) hne).set _ 2 (.slice E2 (R.firstOf.add (dirR (L5 : Int) mode) up).Cov.length d2) hne).set _ 3 (.slice E3 (R.firstOf.add (dirR (L5 : Int) mode) up).Dead.length d3) hne).set _ 4 (.slice E4 (R.firstOf.add (dirR (L5 : Int) mode) up).Above.length d4) hne).set _ 5 (.slice E5 (R.firstOf.add (dirR (L5 : Int) mode) up).Firsts.length d5) hne)
  have hbx : Below b w ((((((w4.setCell ⟨b + 1, 0, none⟩ (.slice E0 (R.firstOf.add (dirR (L5 : Int) mode) up).N.length d0)).setCell ⟨b + 1, 1, none⟩ (.slice E1 (R.firstOf.add (dirR (L5 : Int) mode) up).L.length d1)).setCell ⟨b + 1, 2, none⟩ (.slice E2 (R.firstOf.add (dirR (L5 : Int) mode) up).Cov.length d2)).setCell ⟨b + 1, 3, none⟩ (.slice E3 (R.firstOf.add (dirR (L5 : Int) mode) up).Dead.length d3)).setCell ⟨b + 1, 4, none⟩ (.slice E4 (R.firstOf.add (dirR (L5 : Int) mode) up).Above.length d4)).setCell ⟨b + 1, 5, none⟩ (.slice E5 (R.firstOf.add (dirR (L5 : Int) mode) up).Firsts.length d5)) := ((((((HB3.out.trans (hbw.mono (by have := HS3.out; omega))).setCell (by show b ≤ b + 1; omega) _).setCell (by show b ≤ b + 1; omega) _).setCell (by show b ≤ b + 1; omega) _).setCell (by show b ≤ b + 1; omega) _).setCell (by show b ≤ b + 1; omega) _).setCell (by show b ≤ b + 1; omega) _
  have hr : (((((((w4.setCell ⟨b + 1, 0, none⟩ (.slice E0 (R.firstOf.add (dirR (L5 : Int) mode) up).N.length d0)).setCell ⟨b + 1, 1, none⟩ (.slice E1 (R.firstOf.add (dirR (L5 : Int) mode) up).L.length d1)).setCell ⟨b + 1, 2, none⟩ (.slice E2 (R.firstOf.add (dirR (L5 : Int) mode) up).Cov.length d2)).setCell ⟨b + 1, 3, none⟩ (.slice E3 (R.firstOf.add (dirR (L5 : Int) mode) up).Dead.length d3)).setCell ⟨b + 1, 4, none⟩ (.slice E4 (R.firstOf.add (dirR (L5 : Int) mode) up).Above.length d4)).setCell ⟨b + 1, 5, none⟩ (.slice E5 (R.firstOf.add (dirR (L5 : Int) mode) up).Firsts.length d5))).heap[b + 1]? = some (.cells #[.slice E0 (R.firstOf.add (dirR (L5 : Int) mode) up).N.length d0, .slice E1 (R.firstOf.add (dirR (L5 : Int) mode) up).L.length d1, .slice E2 (R.firstOf.add (dirR (L5 : Int) mode) up).Cov.length d2, .slice E3 (R.firstOf.add (dirR (L5 : Int) mode) up).Dead.length d3, .slice E4 (R.firstOf.add (dirR (L5 : Int) mode) up).Above.length d4, .slice E5 (R.firstOf.add (dirR (L5 : Int) mode) up).Firsts.length d5] TR (0, 0)) := blk_set (blk_set (blk_set (blk_set (blk_set (blk_set hD2.r 0 _) 1 _) 2 _) 3 _) 4 _) 5 _
  obtain ⟨w5, hw5⟩ : ∃ w5, w5 = ((((((w4.setCell ⟨b + 1, 0, none⟩ (.slice E0 (R.firstOf.add (dirR (L5 : Int) mode) up).N.length d0)).setCell ⟨b + 1, 1, none⟩ (.slice E1 (R.firstOf.add (dirR (L5 : Int) mode) up).L.length d1)).setCell ⟨b + 1, 2, none⟩ (.slice E2 (R.firstOf.add (dirR (L5 : Int) mode) up).Cov.length d2)).setCell ⟨b + 1, 3, none⟩ (.slice E3 (R.firstOf.add (dirR (L5 : Int) mode) up).Dead.length d3)).setCell ⟨b + 1, 4, none⟩ (.slice E4 (R.firstOf.add (dirR (L5 : Int) mode) up).Above.length d4)).setCell ⟨b + 1, 5, none⟩ (.slice E5 (R.firstOf.add (dirR (L5 : Int) mode) up).Firsts.length d5)) := ⟨_, rfl⟩
  rw [← hw5] at hx hbx hr ⊢
  clear hw5 e0 e1 e2 e3 e4 e5 y0 y1 y2 y3 y4 y5
  have hfr : ∀ k, (okA k ∨ wd.heap.size ≤ k) → ok k ∨ b ≤ k := fun k hk => by have := HS3.out; rcases hk with hk | hk; exact (HOK.out k hk).1; exact Or.inr (by omega)
  obtain ⟨e0, e1, e2, e3, e4, e5⟩ := boxR_cells hr
  have HX5 := Aside0.mk (hx.mono hfr)
  have HBX := Aside0.mk hbx
  clear hx hbx hr hne hfr hVA hB4 hD2 hbw hHeld hbd hsd HX HA3 HB3 HS3 HOK
  go_wp2
  refine bodyPost_ret (v := .agg #[.slice E0 (R.firstOf.add (dirR (L5 : Int) mode) up).N.length d0, .slice E1 (R.firstOf.add (dirR (L5 : Int) mode) up).L.length d1, .slice E2 (R.firstOf.add (dirR (L5 : Int) mode) up).Cov.length d2, .slice E3 (R.firstOf.add (dirR (L5 : Int) mode) up).Dead.length d3, .slice E4 (R.firstOf.add (dirR (L5 : Int) mode) up).Above.length d4, .slice E5 (R.firstOf.add (dirR (L5 : Int) mode) up).Firsts.length d5]) (by simp [results, Try.results30, go_sem, e0, e1, e2, e3, e4, e5]) rfl ⟨_, rfl, ?_, ?_⟩
  ·rw [← Hb.out]
   have e9 : (L5 : Int) = (R.Firsts.length : Int) + 1 := by rw [HL5.out, List.length_append]; rfl
   unfold Ref.device
   rw [← e9]
   exact HX5.out
  ·rw [← Hb.out]
   exact HBX.out
 ·intro hCont
  refine two_ (i := 0) (j := 7) (Ni := some 7) (Nj := some 14) #[true, true, true, false, true, true, true, false, false, false, false] #[false, true, true, false, true, true, true, true, false, false, false] rfl rfl rfl rfl (by kernel_rfl) (by decide) (by decide) (fun K hK => ?_) (fun K hK => ?_)
  ·refine value_ (v := .slice (some ⟨(wd).heap.size, 0, none⟩) 0 0) (w1 := (wd).alloc (.cells #[] 3)) (by rfl) rfl (by go_simp) ?_
   refine hK.out _ _ ⟨pw_cell_below (below_all _) hHeld.1, pw_cell_below (below_all _) hHeld.2⟩ (fun _ => ?_)
   clear hK K
   refine norm_ (a' := ?_) ?_ ?_
   rotate_left
   ·show Act.put _ (some 7) _ = _
    simp only [Act.put, List.setIfInBounds_toArray, List.set_cons_zero, List.set_cons_succ]
    rfl
   have hB0 : Below wd.heap.size wd (wd.alloc (.cells #[] 3)) := below_all _
   obtain ⟨wa, hwa⟩ : ∃ wa, wa = wd.alloc (.cells #[] 3) := ⟨_, rfl⟩
   have hsa : wa.heap.size = wd.heap.size + 1 := by rw [hwa]; simp
   have hRa : ∀ ok : Nat → Prop, (∀ k, k = wd.heap.size → ok k) → kI.R 3 wa wd.heap.size ok (.slice (some ⟨wd.heap.size, 0, none⟩) 0 0) [] := fun ok hok => by rw [hwa]; exact Kd.R_mono (Kd.R_reok (ok := fun k => k = wd.heap.size) rfl (R_made kI 3 wd (fun _ => True) (fun _ _ => trivial)) (fun k hk => by simpa [Value.ownBlock] using hk.symm)) hok
   rw [← hwa] at hB0 ⊢
   clear hwa
   refine two_ (i := 3) (j := 7) (Ni := some 10) (Nj := some 14) #[true, true, true, true, true, true, true, false, false, false, false] #[true, true, true, false, true, true, true, true, false, false, false] rfl rfl rfl rfl (by kernel_rfl) (by decide) (by decide) (fun K hK => ?_) (fun K hK => ?_)
   ·refine step_C kI KM_I (w0 := wd) wd.heap.size (by rfl) (.tmp 7) (.tmp 9) 45 3 (.int .i64 0) 8 rfl Try.underlying45 info3 rfl (by decide) (by decide) (.slice (some ⟨wd.heap.size, 0, none⟩) 0 0) [] R.Firsts A5 _ _ (fun k => wd.heap.size ≤ k) (by rfl) (by rfl) (hRa _ (fun k hk => by omega)) (Kd.C_below hCL' hB0) (fun k hk => by omega) hB0 hB0.size (by simp; omega) ?_
    intro v10 w2 hR2 hB2 _
    refine hK.out _ _ ⟨pw_cell_below hB2 hHeld.1, pw_cell_below hB2 hHeld.2⟩ (fun _ => ?_)
    clear hK K
    refine norm_ (a' := ?_) ?_ ?_
    rotate_left
    ·show Act.put _ (some 10) _ = _
     simp only [Act.put, List.setIfInBounds_toArray, List.set_cons_zero, List.set_cons_succ]
     rfl
    refine one_ (i := 7) (N := some 14) #[true, true, true, true, true, true, true, true, false, false, false] rfl rfl (by kernel_rfl) (by decide) (fun K hK => ?_)
    refine value_ (v := .slice (some ⟨(w2).heap.size, 0, none⟩) 1 1) (w1 := (w2).alloc (.cells #[.int .i64 (R.N.length : Int)] 3)) (by rfl) rfl (by go_simp) ?_
    have hb3 := hB2.alloc hB2.size (.cells #[.int .i64 (R.N.length : Int)] 3)
    refine hK.out _ _ ⟨pw_cell_below hb3 hHeld.1, pw_cell_below hb3 hHeld.2⟩ (fun _ => ?_)
    clear hK K
    exact hCont (.slice (some ⟨wd.heap.size, 0, none⟩) 0 0, v10, .slice (some ⟨w2.heap.size, 0, none⟩) 1 1) _ ⟨w2.heap.size, rfl, Kd.R_alloc (Kd.R_mono (Kd.R_bound (by simpa using hR2)) (fun k hk => ⟨hk.1, by have := hk.2.2.1; omega⟩)) _, heap_alloc_new _ _, hB2.size, hb3⟩
   ·refine value_ (v := .slice (some ⟨(wa).heap.size, 0, none⟩) 1 1) (w1 := (wa).alloc (.cells #[.int .i64 (R.N.length : Int)] 3)) (by rfl) rfl (by go_simp) ?_
    have hb3 := hB0.alloc hB0.size (.cells #[.int .i64 (R.N.length : Int)] 3)
    refine hK.out _ _ ⟨pw_cell_below hb3 hHeld.1, pw_cell_below hb3 hHeld.2⟩ (fun _ => ?_)
    clear hK K
    refine norm_ (a' := ?_) ?_ ?_
    rotate_left
    ·show Act.put _ (some 14) _ = _
     simp only [Act.put, List.setIfInBounds_toArray, List.set_cons_zero, List.set_cons_succ]
     rfl
    have hbi := heap_alloc_new wa (.cells #[.int .i64 (R.N.length : Int)] 3)
    refine one_ (i := 3) (N := some 10) #[true, true, true, true, true, true, true, true, false, false, false] rfl rfl (by kernel_rfl) (by decide) (fun K hK => ?_)
    refine step_C kI KM_I (w0 := wd) wd.heap.size (by rfl) (.tmp 7) (.tmp 9) 45 3 (.int .i64 0) 8 rfl Try.underlying45 info3 rfl (by decide) (by decide) (.slice (some ⟨wd.heap.size, 0, none⟩) 0 0) [] R.Firsts A5 _ _ (fun k => wd.heap.size ≤ k ∧ k ≠ wa.heap.size) (by rfl) (by rfl) (Kd.R_alloc (hRa _ (fun k hk => ⟨by omega, by omega⟩)) _) (Kd.C_below hCL' hb3) (fun k hk => by simp at hk; exact ⟨by omega, by omega⟩) hb3 hb3.size (by simp; omega) ?_
    intro v10 w2 hR2 hB2 hg2
    refine hK.out _ _ ⟨pw_cell_below hB2 hHeld.1, pw_cell_below hB2 hHeld.2⟩ (fun _ => ?_)
    clear hK K
    exact hCont (.slice (some ⟨wd.heap.size, 0, none⟩) 0 0, v10, .slice (some ⟨wa.heap.size, 0, none⟩) 1 1) _ ⟨wa.heap.size, rfl, by simpa using hR2, (hg2.block _ (by simp) (by simp [Value.ownBlock]; omega)).trans hbi, by omega, hB2⟩
  ·refine value_ (v := .slice (some ⟨(wd).heap.size, 0, none⟩) 1 1) (w1 := (wd).alloc (.cells #[.int .i64 (R.N.length : Int)] 3)) (by rfl) rfl (by go_simp) ?_
   refine hK.out _ _ ⟨pw_cell_below (below_all _) hHeld.1, pw_cell_below (below_all _) hHeld.2⟩ (fun _ => ?_)
   clear hK K
   refine norm_ (a' := ?_) ?_ ?_
   rotate_left
   ·show Act.put _ (some 14) _ = _
    simp only [Act.put, List.setIfInBounds_toArray, List.set_cons_zero, List.set_cons_succ]
    rfl
   have hB0 : Below wd.heap.size wd (wd.alloc (.cells #[.int .i64 (R.N.length : Int)] 3)) := below_all _
   have hbi := heap_alloc_new wd (.cells #[.int .i64 (R.N.length : Int)] 3)
   obtain ⟨wa, hwa⟩ : ∃ wa, wa = wd.alloc (.cells #[.int .i64 (R.N.length : Int)] 3) := ⟨_, rfl⟩
   have hsa : wa.heap.size = wd.heap.size + 1 := by rw [hwa]; simp
   rw [← hwa] at hB0 hbi ⊢
   clear hwa
   refine one_ (i := 0) (N := some 7) #[true, true, true, false, true, true, true, true, false, false, false] rfl rfl (by kernel_rfl) (by decide) (fun K hK => ?_)
   refine value_ (v := .slice (some ⟨(wa).heap.size, 0, none⟩) 0 0) (w1 := (wa).alloc (.cells #[] 3)) (by rfl) rfl (by go_simp) ?_
   have hb3 := hB0.alloc hB0.size (.cells #[] 3)
   refine hK.out _ _ ⟨pw_cell_below hb3 hHeld.1, pw_cell_below hb3 hHeld.2⟩ (fun _ => ?_)
   clear hK K
   refine norm_ (a' := ?_) ?_ ?_
   rotate_left
   ·show Act.put _ (some 7) _ = _
    simp only [Act.put, List.setIfInBounds_toArray, List.set_cons_zero, List.set_cons_succ]
    rfl
   refine one_ (i := 3) (N := some 10) #[true, true, true, true, true, true, true, true, false, false, false] rfl rfl (by kernel_rfl) (by decide) (fun K hK => ?_)
   refine step_C kI KM_I (w0 := wd) wd.heap.size (by rfl) (.tmp 7) (.tmp 9) 45 3 (.int .i64 0) 8 rfl Try.underlying45 info3 rfl (by decide) (by decide) (.slice (some ⟨wa.heap.size, 0, none⟩) 0 0) [] R.Firsts A5 _ _ (fun k => wd.heap.size ≤ k ∧ k ≠ wd.heap.size) (by rfl) (by rfl) (Kd.R_lower (R_made kI 3 wa _ (fun k hk => ⟨by omega, by omega⟩)) (by omega)) (Kd.C_below hCL' hb3) (fun k hk => by simp at hk; exact ⟨by omega, by omega⟩) hb3 hb3.size (by simp; omega) ?_
   intro v10 w2 hR2 hB2 hg2
   refine hK.out _ _ ⟨pw_cell_below hB2 hHeld.1, pw_cell_below hB2 hHeld.2⟩ (fun _ => ?_)
   clear hK K
   exact hCont (.slice (some ⟨wa.heap.size, 0, none⟩) 0 0, v10, .slice (some ⟨wd.heap.size, 0, none⟩) 1 1) _ ⟨wd.heap.size, rfl, by simpa using hR2, (hg2.block _ (by simp; omega) (by simp [Value.ownBlock]; omega)).trans ((Below.heap_alloc wa _ _ (by omega)).trans hbi), Nat.le_refl _, hB2⟩
set_option maxHeartbeats 2000000 in
theorem refNewV_calls (w : World) : Calls Try.prog 18 #[] w fun e w' => ∃ vs', e = .returned (.agg vs') ∧ RefV Ref.new w' (fun k => w.heap.size ≤ k) vs' ∧ Below w.heap.size w w' := by
 obtain ⟨b, hb⟩ : ∃ b, b = w.heap.size := ⟨_, rfl⟩
 obtain ⟨W1, hW1⟩ : ∃ W1 : World, W1 = w.alloc (.cells zR TR) := ⟨_, rfl⟩
 have hB0 : Below w.heap.size w W1 := by rw [hW1]; exact below_all _
 have hs1 : W1.heap.size = b + 1 := by rw [hW1, hb]; simp
 have hA : W1.heap[b]? = some (.cells zR TR (0, 0)) := by rw [hW1, hb]; exact heap_alloc_new _ _
 have hZ : RefV ⟨[], [], [], [], [], []⟩ W1 (fun _ => False) zR := by
  have z : ∀ {α : Type} (d : Kd α), Kd.V d 0 W1 0 (fun _ => False) (.slice none 0 0) [] := fun d => Kd.V_nil _ _ _ _ _
  exact ⟨_, _, _, _, _, _, rfl, z _, z _, z _, z _, z _, z _⟩
 have HD := Aside0.mk (deviceV_calls ⟨[], [], [], [], [], []⟩ 493 0 W1 (fun _ => False) _ hZ ⟨by decide, by decide, by decide, by decide⟩ (by decide))
 have HB := Aside0.mk hB0
 have HA := Aside0.mk hA
 have HS := Aside0.mk hs1
 have Hb := Aside0.mk hb
 clear hB0 hA hs1 hZ
 go_enter Try.func18, Try.ntmps18
 go_wp2_with fail
 rw [← hW1, ← hb]
 clear hW1 hb
 refine HD.out.mono ?_
 rintro e w2 ⟨vs, rfl, hV, hB⟩
 obtain ⟨A0, c0, A1, c1, A2, c2, A3, c3, A4, c4, A5, c5, rfl⟩ := hV.form
 have hA2 := (hB.block b (by have := HS.out; omega)).trans HA.out
 obtain ⟨r0, r1, r2, r3, r4, r5⟩ := boxR_cells hA2
 have zr0 := blk_frozen hA2 0
 have zr1 := blk_frozen hA2 1
 have zr2 := blk_frozen hA2 2
 have zr3 := blk_frozen hA2 3
 have zr4 := blk_frozen hA2 4
 have zr5 := blk_frozen hA2 5
 have hV2 : RefV Ref.new w2 (fun k => b + 1 ≤ k) _ := hV.mono (fun k hk => by rcases hk with hk | hk; exact hk.elim; have := HS.out; omega)
 have HV := Aside0.mk hV2
 have HB2 : Aside0 (Below b w w2) := ⟨by rw [Hb.out]; exact HB.out.trans (hB.mono (by have := HB.out.size; omega))⟩
 clear hV hV2 hB hA2 HD HA HB HS
 go_wp2
 refine bodyPost_ret (v := .agg #[.slice A0 Ref.new.N.length c0, .slice A1 Ref.new.L.length c1, .slice A2 Ref.new.Cov.length c2, .slice A3 Ref.new.Dead.length c3, .slice A4 Ref.new.Above.length c4, .slice A5 Ref.new.Firsts.length c5]) (by simp [results, Try.results18, go_sem, r0, r1, r2, r3, r4, r5]; exact ⟨rfl, rfl, rfl, rfl, rfl, rfl⟩) rfl ⟨_, rfl, ?_, ?_⟩
 ·have hne : ∀ k, b + 1 ≤ k → k ≠ b := fun k hk => by omega
  rw [← Hb.out]
  exact ((((((HV.out.set _ 0 _ hne).set _ 1 _ hne).set _ 2 _ hne).set _ 3 _ hne).set _ 4 _ hne).set _ 5 _ hne).mono (fun k hk => by omega)
 ·have hge : b ≤ b := Nat.le_refl _
  rw [← Hb.out]
  exact (((((HB2.out.setCell hge _).setCell hge _).setCell hge _).setCell hge _).setCell hge _).setCell hge _
end Go.Proofs.Ytlfldoghomnbkaa.QVfs
