import Derived.Test.YtlfldoghomnbkaaSXVq0
import Derived.WalkMore
import Derived.StillTailTactics
-- Texts of this seat, what the claim does not reach struck out by a program.
namespace Go.Proofs.Ytlfldoghomnbkaa.QVfs
open Go.RowKit Go.Proofs.YtlfldoghomnbkaaW.PrintWords Go.Proofs.YtlfldoghomnbkaaW.PrintLast Go.Proofs.YtlfldoghomnbkaaW.PrintMore
set_option linter.unusedVariables false
set_option linter.unusedSimpArgs false
set_option maxHeartbeats 1000000 in
theorem bits_calls (m : Int) (w : World) : Calls Try.prog 33 #[.int .i64 m] w fun e w' => e = .returned (.int .i64 (modeR m)) ∧ w' = w := by
 have h4 : m.tmod 4096 = m % 4096 ∨ m.tmod 4096 = m % 4096 - 4096 := by
  rw [Int.tmod_eq_emod]
  split
  ·exact Or.inl (by omega)
  ·exact Or.inr rfl
 obtain ⟨t, ht⟩ : ∃ t, t = m.tmod 4096 := ⟨_, rfl⟩
 rw [← ht] at h4
 have q1 : m.tmod 4096 = t := ht.symm
 have q2 : wrap64 (t + 4096) = t + 4096 := by unfold wrap64; omega
 have q3 : (t + 4096).tmod 4096 = modeR m := by rw [Int.tmod_eq_emod_of_nonneg (by omega)]; unfold modeR; omega
 have q4 : wrap64 t = t := by unfold wrap64; omega
 have q5 : wrap64 (modeR m) = modeR m := by unfold wrap64 modeR; omega
 clear ht h4
 go_enter Try.func33, Try.ntmps33
 go_wp2
 go_ret
 refine ⟨?_, rfl⟩
 simp [q1, q2, q3, q4, q5]
abbrev zR : Array Value := #[.slice none 0 0, .slice none 0 0, .slice none 0 0, .slice none 0 0, .slice none 0 0, .slice none 0 0]
structure AdAt (b : Nat) (us : Array Value) (n : Node) (i : Int) (W : World) : Prop where
 f : W.heap[b]? = some (.cells us TR (0, 0))
 n : W.heap[b + 1]? = some (.cells (encN (inoN n i)).toArray 36 (0, 0))
 r : W.heap[b + 1 + 1]? = some (.cells zR TR (0, 0))
theorem AdAt.below {b : Nat} {us : Array Value} {n : Node} {i : Int} {W W' : World} (h : AdAt b us n i W) (hb : Below W.heap.size W W') : AdAt b us n i W' :=
 ⟨(hb.block _ (blk_lt h.f)).trans h.f, (hb.block _ (blk_lt h.n)).trans h.n, (hb.block _ (blk_lt h.r)).trans h.r⟩
theorem AdAt.setF {b : Nat} {us : Array Value} {n : Node} {i : Int} {W : World} (h : AdAt b us n i W) (j : Nat) (u : Value) : AdAt b (us.setIfInBounds j u) n i (W.setCell ⟨b, j, none⟩ u) :=
 ⟨blk_set h.f j u, blk_far h.n (p := ⟨b, j, none⟩) (show b + 1 ≠ b by omega) u, blk_far h.r (p := ⟨b, j, none⟩) (show b + 1 + 1 ≠ b by omega) u⟩
section
variable {R : Ref} {w : World} {ok : Nat → Prop} {v0 v1 v2 v3 v4 v5 v : Value}
theorem RefV.rowN (h : RefV R w ok #[v0, v1, v2, v3, v4, v5]) {l : List Node} (hv : Kd.V kN 0 w 0 ok v l) : RefV ⟨l, R.L, R.Cov, R.Dead, R.Above, R.Firsts⟩ w ok #[v, v1, v2, v3, v4, v5] := by
 obtain ⟨y0, y1, y2, y3, y4, y5⟩ := h.vs
 exact ⟨_, _, _, _, _, _, rfl, hv, y1, y2, y3, y4, y5⟩
theorem RefV.rowC (h : RefV R w ok #[v0, v1, v2, v3, v4, v5]) {l : List Int} (hv : Kd.V kI 0 w 0 ok v l) : RefV ⟨R.N, R.L, l, R.Dead, R.Above, R.Firsts⟩ w ok #[v0, v1, v, v3, v4, v5] := by
 obtain ⟨y0, y1, y2, y3, y4, y5⟩ := h.vs
 exact ⟨_, _, _, _, _, _, rfl, y0, y1, hv, y3, y4, y5⟩
theorem RefV.rowD (h : RefV R w ok #[v0, v1, v2, v3, v4, v5]) {l : List Bool} (hv : Kd.V Kd.bool 0 w 0 ok v l) : RefV ⟨R.N, R.L, R.Cov, l, R.Above, R.Firsts⟩ w ok #[v0, v1, v2, v, v4, v5] := by
 obtain ⟨y0, y1, y2, y3, y4, y5⟩ := h.vs
 exact ⟨_, _, _, _, _, _, rfl, y0, y1, y2, hv, y4, y5⟩
theorem RefV.rowA (h : RefV R w ok #[v0, v1, v2, v3, v4, v5]) {l : List Int} (hv : Kd.V kI 0 w 0 ok v l) : RefV ⟨R.N, R.L, R.Cov, R.Dead, l, R.Firsts⟩ w ok #[v0, v1, v2, v3, v, v5] := by
 obtain ⟨y0, y1, y2, y3, y4, y5⟩ := h.vs
 exact ⟨_, _, _, _, _, _, rfl, y0, y1, y2, y3, hv, y5⟩
theorem RefV.rowF (h : RefV R w ok #[v0, v1, v2, v3, v4, v5]) {l : List Int} (hv : Kd.V kI 0 w 0 ok v l) : RefV ⟨R.N, R.L, R.Cov, R.Dead, R.Above, l⟩ w ok #[v0, v1, v2, v3, v4, v] := by
 obtain ⟨y0, y1, y2, y3, y4, y5⟩ := h.vs
 exact ⟨_, _, _, _, _, _, rfl, y0, y1, y2, y3, y4, hv⟩
end
theorem AdAt.ino {b : Nat} {us : Array Value} {n : Node} {i : Int} {W : World} (h : AdAt b us n i W) (j : Int) : AdAt b us n j (W.setCell ⟨b + 1, 1, none⟩ (.int .i64 j)) :=
 ⟨blk_far h.f (p := ⟨b + 1, 1, none⟩) (show b ≠ b + 1 by omega) _, blk_put h.n 1 _ rfl, blk_far h.r (p := ⟨b + 1, 1, none⟩) (show b + 1 + 1 ≠ b + 1 by omega) _⟩
def ok3 (ok : Nat → Prop) (b k : Nat) : Prop := (ok k ∧ k < b) ∨ b + 3 ≤ k
set_option maxHeartbeats 8000000 in
set_option maxRecDepth 100000 in
theorem addV_calls (R : Ref) (n : Node) (up : Int) (w : World) (ok : Nat → Prop) (vs : Array Value) (h : RefV R w ok vs) (hO : R.N.length ≤ 1000 ∧ R.Cov.length ≤ 1000 ∧ R.Dead.length ≤ 1000 ∧ R.Above.length ≤ 1000) :
  Calls Try.prog 32 #[.agg vs, .agg (encN n).toArray, .int .i64 up] w fun e w' => ∃ vs', e = .returned (.agg vs') ∧ RefV (R.add n up) w' (fun k => ok k ∨ w.heap.size ≤ k) vs' ∧ Below w.heap.size w w' := by
 have hV := h.bound
 obtain ⟨A0, c0, A1, c1, A2, c2, A3, c3, A4, c4, A5, c5, rfl⟩ := hV.form
 obtain ⟨b, hb⟩ : ∃ b, b = w.heap.size := ⟨_, rfl⟩
 obtain ⟨us, hus⟩ : ∃ us : Array Value, us = #[.slice A0 R.N.length c0, .slice A1 R.L.length c1, .slice A2 R.Cov.length c2, .slice A3 R.Dead.length c3, .slice A4 R.Above.length c4, .slice A5 R.Firsts.length c5] := ⟨_, rfl⟩
 obtain ⟨W1, hW1⟩ : ∃ W1 : World, W1 = ((w.alloc (.cells us TR)).alloc (.cells (encN (inoN n 1)).toArray 36)).alloc (.cells zR TR) := ⟨_, rfl⟩
 have hB0 : Below w.heap.size w W1 := by rw [hW1]; exact (((Below.refl _ w).alloc (Nat.le_refl _) _).alloc (by simp) _).alloc (by simp; omega) _
 have hB1 : Below b w W1 := by rw [hb]; exact hB0
 have hs1 : W1.heap.size = b + 3 := by rw [hW1, hb]; simp
 have hA : AdAt b us n (1 + R.cntTo n.f0 0) W1 := by
  rw [hW1, hb]
  have e0 := heap_alloc_new w (.cells us TR)
  have e1 := heap_alloc_new (w.alloc (.cells us TR)) (.cells (encN (inoN n 1)).toArray 36)
  have e2 := heap_alloc_new ((w.alloc (.cells us TR)).alloc (.cells (encN (inoN n 1)).toArray 36)) (.cells zR TR)
  simp only [World.size_alloc] at e1 e2
  exact ⟨(Below.heap_alloc _ _ _ (by simp; omega)).trans ((Below.heap_alloc _ _ _ (by simp)).trans e0), (Below.heap_alloc _ _ _ (by simp)).trans e1, e2⟩
 have hV1 : RefV R W1 (ok3 ok b) us := by
  rw [hus]
  exact (hV.below hB0).mono (fun k hk => Or.inl ⟨hk.1, by rw [hb]; exact hk.2⟩)
 have HA := Aside0.mk hA
 have HV := Aside0.mk hV1
 have HB := Aside0.mk hB1
 have HS := Aside0.mk (Nat.le_of_eq hs1.symm)
 have HO := Aside0.mk hO
 have Hb := Aside0.mk hb
 clear h hV hB0 hB1 hs1 hA hV1 hO
 subst hus
 unfold encN
 go_enter Try.func32, Try.ntmps32
 go_wp2_with fail
 (try unfold encN inoN at hW1)
 simp only [List.cons_append, List.nil_append] at hW1
 rw [← hW1, ← hb]
 clear hW1 hb
 go_loopw [7] (fun v7 wr => ∃ i : Nat, v7 = .int .i64 i ∧ i ≤ R.N.length ∧ Aside0 (AdAt b #[.slice A0 R.N.length c0, .slice A1 R.L.length c1, .slice A2 R.Cov.length c2, .slice A3 R.Dead.length c3, .slice A4 R.Above.length c4, .slice A5 R.Firsts.length c5] n (1 + R.cntTo n.f0 i) wr) ∧ Aside0 (RefV R wr (ok3 ok b) #[.slice A0 R.N.length c0, .slice A1 R.L.length c1, .slice A2 R.Cov.length c2, .slice A3 R.Dead.length c3, .slice A4 R.Above.length c4, .slice A5 R.Firsts.length c5]) ∧ Aside0 (Below b w wr) ∧ Aside0 (b + 3 ≤ wr.heap.size)) (fun v7 _ => R.N.length - (intOf v7).toNat)
 case atStart => exact ⟨0, rfl, Nat.zero_le _, HA, HV, HB, HS⟩
 case round =>
  obtain ⟨i, rfl, hi, HAr, HVr, HBr, HSr⟩ := hrel
  clear HA HV HB HS
  obtain ⟨f0, f1, f2, f3, f4, f5⟩ := boxR_cells HAr.out.f
  have n0 : wr.cell? ⟨b + 1, 0, none⟩ = some (.int .i64 n.f0) := (blk_cell HAr.out.n 0).trans rfl
  have n1 : wr.cell? ⟨b + 1, 1, none⟩ = some (.int .i64 (1 + R.cntTo n.f0 i)) := (blk_cell HAr.out.n 1).trans rfl
  have zn := blk_frozen HAr.out.n 1
  by_cases hlt : i < R.N.length
  ·have d1 : decide ((i : Int) < (R.N.length : Int)) = true := decide_eq_true (by omega)
   have d0 : (0 : Int) ≤ (i : Int) := by omega
   have d2 : (i : Int) < (R.N.length : Int) := by omega
   obtain ⟨A, c, e, hl, hC⟩ := V_row HVr.out.vs.1
   injection e with e e2 e3
   subst e
   subst e3
   obtain ⟨ad, rfl, x0, -⟩ := at_T36 hC (i : Int) d0 d2
   rw [Int.toNat_natCast] at x0
   clear hC
   have hs := R.cntTo_succ n.f0 i hlt
   have hcl := R.cntTo_le n.f0 i
   obtain ⟨t, ht⟩ : ∃ t : Nat, t = R.cntTo n.f0 i := ⟨_, rfl⟩
   rw [← ht] at hs hcl n1
   have HT := Aside0.mk ht
   have HO1 := HO.out.1
   have w1 : wrap64 ((i : Int) + 1) = ((i + 1 : Nat) : Int) := wrapR (by omega)
   have w2 : wrap64 (1 + (t : Int) + 1) = 1 + ((t + 1 : Nat) : Int) := by unfold wrap64; omega
   clear ht hcl
   by_cases hm : (rd_T36 R.N (i : Int)).f0 = n.f0
   ·rw [if_pos hm] at hs
    have b1 : ((rd_T36 R.N (i : Int)).f0 == n.f0) = true := beq_iff_eq.2 hm
    have HC1 := Aside0.mk hs
    clear hm hs
    go_wp2_with fail
    go_quiet (fail)
    rename_i nq
    have hbq : Below wr.heap.size wr (wr.drewN nq) := pw_below_drewN (Below.refl _ _) _
    have HA3 := Aside0.mk (HAr.out.below hbq)
    have HV3 := Aside0.mk (HVr.out.below hbq)
    have HB3 := Aside0.mk (HBr.out.trans (hbq.mono (by have := HSr.out; omega)))
    have HS3 : Aside0 (b + 3 ≤ (wr.drewN nq).heap.size) := Aside0.mk (Nat.le_trans HSr.out hbq.size)
    clear hbq
    go_wp2_with fail
    go_roundw
    case rel =>
     refine ⟨i + 1, by go_num, by omega, ?_, ⟨HV3.out.set (b + 1) 1 _ (fun k hk => by rcases hk with ⟨_, hk⟩ | hk <;> omega)⟩, ⟨HB3.out.setCell (p := ⟨b + 1, 1, none⟩) (by show b ≤ b + 1; omega) _⟩, ⟨by rw [World.size_setCell]; exact HS3.out⟩⟩
     rw [HC1.out]
     have := HA3.out.ino (1 + ((t : Int) + 1))
     refine ⟨?_⟩
     rw [show (1 + ((t + 1 : Nat) : Int)) = 1 + ((t : Int) + 1) by omega]
     exact this
    case measure => simp [intOf]; omega
   ·rw [if_neg hm] at hs
    have b1 : ((rd_T36 R.N (i : Int)).f0 == n.f0) = false := beq_eq_false_iff_ne.2 hm
    have HC1 := Aside0.mk hs
    clear hm hs
    go_wp2_with fail
    go_quiet (fail)
    rename_i nq
    have hbq : Below wr.heap.size wr (wr.drewN nq) := pw_below_drewN (Below.refl _ _) _
    have HA3 := Aside0.mk (HAr.out.below hbq)
    have HV3 := Aside0.mk (HVr.out.below hbq)
    have HB3 := Aside0.mk (HBr.out.trans (hbq.mono (by have := HSr.out; omega)))
    have HS3 : Aside0 (b + 3 ≤ (wr.drewN nq).heap.size) := Aside0.mk (Nat.le_trans HSr.out hbq.size)
    clear hbq
    go_wp2_with fail
    go_roundw
    case rel =>
     refine ⟨i + 1, by go_num, by omega, ?_, HV3, HB3, HS3⟩
     rw [HC1.out, Nat.add_zero, HT.out]
     exact HA3
    case measure => simp [intOf]; omega
  ·have d1 : decide ((i : Int) < (R.N.length : Int)) = false := decide_eq_false (by omega)
   obtain ⟨j, hj⟩ : ∃ j : Int, j = 1 + R.cntTo n.f0 i := ⟨_, rfl⟩
   rw [← hj] at HAr n1
   have HJ := Aside0.mk hj
   clear hj
   have n2 : wr.cell? ⟨b + 1, 2, none⟩ = some (.int .i64 n.f2) := (blk_cell HAr.out.n 2).trans rfl
   have n3 : wr.cell? ⟨b + 1, 3, none⟩ = some (.int .i64 n.f3) := (blk_cell HAr.out.n 3).trans rfl
   have n4 : wr.cell? ⟨b + 1, 4, none⟩ = some (.int .i64 n.f4) := (blk_cell HAr.out.n 4).trans rfl
   have n5 : wr.cell? ⟨b + 1, 5, none⟩ = some (.int .i64 n.f5) := (blk_cell HAr.out.n 5).trans rfl
   have n6 : wr.cell? ⟨b + 1, 6, none⟩ = some (.int .i64 n.f6) := (blk_cell HAr.out.n 6).trans rfl
   have n7 : wr.cell? ⟨b + 1, 7, none⟩ = some (.int .i64 n.f7) := (blk_cell HAr.out.n 7).trans rfl
   have n8 : wr.cell? ⟨b + 1, 8, none⟩ = some (.int .i64 n.f8) := (blk_cell HAr.out.n 8).trans rfl
   have n9 : wr.cell? ⟨b + 1, 9, none⟩ = some (.int .i64 n.f9.f0) := (blk_cell HAr.out.n 9).trans rfl
   have n10 : wr.cell? ⟨b + 1, 10, none⟩ = some (.int .i64 n.f9.f1) := (blk_cell HAr.out.n 10).trans rfl
   have n11 : wr.cell? ⟨b + 1, 11, none⟩ = some (.int .i64 n.f9.f2) := (blk_cell HAr.out.n 11).trans rfl
   have n12 : wr.cell? ⟨b + 1, 12, none⟩ = some (.string n.f10) := (blk_cell HAr.out.n 12).trans rfl
   go_wp2_with fail
   refine start_ (n := 9) (S := fun w' => w'.cell? ⟨b, 0, none⟩ = some (.slice A0 R.N.length c0) ∧ w'.cell? ⟨b + 1, 0, none⟩ = some (.int .i64 n.f0) ∧ w'.cell? ⟨b + 1, 1, none⟩ = some (.int .i64 j) ∧ w'.cell? ⟨b + 1, 2, none⟩ = some (.int .i64 n.f2) ∧ w'.cell? ⟨b + 1, 3, none⟩ = some (.int .i64 n.f3) ∧ w'.cell? ⟨b + 1, 4, none⟩ = some (.int .i64 n.f4) ∧ w'.cell? ⟨b + 1, 5, none⟩ = some (.int .i64 n.f5) ∧ w'.cell? ⟨b + 1, 6, none⟩ = some (.int .i64 n.f6) ∧ w'.cell? ⟨b + 1, 7, none⟩ = some (.int .i64 n.f7) ∧ w'.cell? ⟨b + 1, 8, none⟩ = some (.int .i64 n.f8) ∧ w'.cell? ⟨b + 1, 9, none⟩ = some (.int .i64 n.f9.f0) ∧ w'.cell? ⟨b + 1, 10, none⟩ = some (.int .i64 n.f9.f1) ∧ w'.cell? ⟨b + 1, 11, none⟩ = some (.int .i64 n.f9.f2) ∧ w'.cell? ⟨b + 1, 12, none⟩ = some (.string n.f10)) (ds := [8]) #[false, false, false, false, false, false, false, false, false] (by kernel_rfl) rfl rfl ⟨f0, n0, n1, n2, n3, n4, n5, n6, n7, n8, n9, n10, n11, n12⟩ ?_
   intro hHeld
   obtain ⟨wd, hwd⟩ : ∃ wd, wd = wr.drew := ⟨_, rfl⟩
   rw [← hwd] at hHeld ⊢
   have hbd : Below wr.heap.size wr wd := by rw [hwd]; exact below_drew (Below.refl _ _)
   have hsd : wd.heap.size = wr.heap.size := by rw [hwd]; rfl
   clear hwd
   refine pure_ (i := 1) (N := some 30) (v := ?_) (a' := ?_) #[false, true, false, false, false, false, false, false, false] rfl rfl (by kernel_rfl) (fun _ _ _ h => h) (Or.inl ⟨by rfl, ?_⟩) ?_ ?_
   rotate_left
   ·intro w'
    go_simp
    with_reducible rfl
   rotate_left
   ·simp only [Act.put, List.setIfInBounds_toArray, List.set_cons_zero, List.set_cons_succ, i64_w, i32_w]
    rfl
   refine take_ (i := 2) (N := some 31) (v := ?_) (a' := ?_) #[false, true, true, false, false, false, false, false, false] rfl rfl (by kernel_rfl) (fun _ _ _ h => h) (Or.inl ⟨by rfl, ?_⟩) hHeld ?_ ?_
   rotate_left
   ·rintro w' ⟨s0, s1, s2, s3, s4, s5, s6, s7, s8, s9, s10, s11, s12, s13⟩
    go_simp
    with_reducible rfl
   rotate_left
   ·simp only [Act.put, List.setIfInBounds_toArray, List.set_cons_zero, List.set_cons_succ, i64_w, i32_w]
    rfl
   refine take_ (i := 4) (N := some 33) (v := ?_) (a' := ?_) #[false, true, true, false, true, false, false, false, false] rfl rfl (by kernel_rfl) (fun _ _ _ h => h) (Or.inl ⟨by rfl, ?_⟩) hHeld ?_ ?_
   rotate_left
   ·rintro w' ⟨s0, s1, s2, s3, s4, s5, s6, s7, s8, s9, s10, s11, s12, s13⟩
    go_simp
    with_reducible rfl
   rotate_left
   ·simp only [Act.put, List.setIfInBounds_toArray, List.set_cons_zero, List.set_cons_succ, i64_w, i32_w]
    rfl
   have hCL := V_C HVr.out.vs.1
   have hCL' := Kd.C_below hCL hbd
   have hlL : (R.N.length + 1) * 112 ≤ 140737488355328 := by have := HO.out.1; omega
   refine join_ (σ := Value × Value × Value) 3 #[true, true, true, true, true, true, false, false, false] (fun s => [(29, s.1), (32, s.2.1), (34, s.2.2)]) (JoinedG kN 36 wd R.N #[.int .i64 n.f0, .int .i64 j, .int .i64 n.f2, .int .i64 n.f3, .int .i64 n.f4, .int .i64 n.f5, .int .i64 n.f6, .int .i64 n.f7, .int .i64 n.f8, .int .i64 n.f9.f0, .int .i64 n.f9.f1, .int .i64 n.f9.f2, .string n.f10]) ?_ ?_
   ·rintro ⟨v29, v32, s2⟩ w' ⟨gi, hs2, hR, hbi, hgi, hBJ⟩
    simp only at hs2 hR
    subst hs2
    refine norm_ (a' := ?_) ?_ ?_
    rotate_left
    ·show putAll _ _ = _
     simp only [putAll, Act.put, List.setIfInBounds_toArray, List.set_cons_zero, List.set_cons_succ]
     rfl
    refine one_ (i := 6) (N := some 35) #[true, true, true, true, true, true, true, false, false] rfl rfl (by kernel_rfl) (by decide) (fun K hK => ?_)
    refine step_C kN KM_N (w0 := wd) wd.heap.size (by rfl) (.tmp 32) (.tmp 34) 43 36 (.agg #[.int .i64 0, .int .i64 0, .int .i64 0, .int .i64 0, .int .i64 0, .int .i64 0, .int .i64 0, .int .i64 0, .int .i64 0, .int .i64 0, .int .i64 0, .int .i64 0, .string ⟨#[]⟩]) 112 rfl Try.underlying43 info36 rfl (by decide) (by decide) v32 R.N [(inoN n j)] (some ⟨gi, 0, none⟩) 1 1 (fun k => wd.heap.size ≤ k ∧ k ≠ gi) (by rfl) (by rfl) hR (one_C (d := kN) (x := (inoN n j)) (cs := encN (inoN n j)) hbi (k36_mk _ _)) (fun k hk => ⟨Nat.le_trans hBJ.size hk, by have := blk_lt hbi; omega⟩) hBJ hBJ.size hlL ?_
    intro v1 w2 hR2 hB2 _
    refine hK.out _ _ ⟨pw_cell_below hB2 hHeld.1, pw_cell_below hB2 hHeld.2.1, pw_cell_below hB2 hHeld.2.2.1, pw_cell_below hB2 hHeld.2.2.2.1, pw_cell_below hB2 hHeld.2.2.2.2.1, pw_cell_below hB2 hHeld.2.2.2.2.2.1, pw_cell_below hB2 hHeld.2.2.2.2.2.2.1, pw_cell_below hB2 hHeld.2.2.2.2.2.2.2.1, pw_cell_below hB2 hHeld.2.2.2.2.2.2.2.2.1, pw_cell_below hB2 hHeld.2.2.2.2.2.2.2.2.2.1, pw_cell_below hB2 hHeld.2.2.2.2.2.2.2.2.2.2.1, pw_cell_below hB2 hHeld.2.2.2.2.2.2.2.2.2.2.2.1, pw_cell_below hB2 hHeld.2.2.2.2.2.2.2.2.2.2.2.2.1, pw_cell_below hB2 hHeld.2.2.2.2.2.2.2.2.2.2.2.2.2⟩ (fun _ => ?_)
    clear hK K
    clear hR hbi
    refine norm_ (a' := ?_) ?_ ?_
    rotate_left
    ·show Act.put _ (some 35) _ = _
     simp only [Act.put, List.setIfInBounds_toArray, List.set_cons_zero, List.set_cons_succ]
     rfl
    refine pure_ (i := 7) (N := some 36) (v := ?_) (a' := ?_) #[true, true, true, true, true, true, true, true, false] rfl rfl (by kernel_rfl) (fun _ _ _ h => h) (Or.inl ⟨by rfl, ?_⟩) ?_ ?_
    rotate_left
    ·intro w'
     go_simp
     with_reducible rfl
    rotate_left
    ·simp only [Act.put, List.setIfInBounds_toArray, List.set_cons_zero, List.set_cons_succ, i64_w, i32_w]
     rfl
    obtain ⟨g, cap, rfl, hgl, hgb, hgs⟩ := R_form hR2 (by simp)
    have hbw := hbd.trans (hB2.mono (by omega))
    have hf1 : w2.cell? ⟨b, 0, none⟩ = some (.slice A0 R.N.length c0) := pw_cell_below hbw f0
    have hz1 : w2.frozen? ⟨b, 0, none⟩ = false := by have h0 := (hbw.block b (by have := HSr.out; omega)).trans HAr.out.f; exact blk_frozen h0 0
    refine last_ (i := 8) (N := none) #[true, true, true, true, true, true, true, true, true] rfl rfl (by kernel_rfl) (by decide) (fun K hK => ?_)
    refine skip_ (w1 := w2.setCell ⟨b, 0, none⟩ (.slice (some ⟨g, 0, none⟩) (R.N ++ [(inoN n j)]).length cap)) (by rfl) rfl (by go_simp) ?_
    refine hK.out _ _ ?_
    clear hK K
    refine done_ (by kernel_rfl) ?_
    obtain ⟨w3, hw3⟩ : ∃ w3, w3 = w2.setCell ⟨b, 0, none⟩ (.slice (some ⟨g, 0, none⟩) (R.N ++ [(inoN n j)]).length cap) := ⟨_, rfl⟩
    rw [← hw3]
    have hneb : ∀ k, (ok3 ok b k ∧ k < wr.heap.size) → k ≠ b := fun k hk => by rcases hk.1 with ⟨_, q⟩ | q <;> omega
    have hx := RefV.set (HVr.out.bound.below hbw) b 0 (.slice (some ⟨g, 0, none⟩) (R.N ++ [(inoN n j)]).length cap) hneb
    have hxN := Kd.R_V (base' := 0) (Kd.R_far (p := ⟨b, 0, none⟩) hR2 (fun k hk => by have h1 := hk.1; have := HSr.out; show k ≠ b; omega) (.slice (some ⟨g, 0, none⟩) (R.N ++ [(inoN n j)]).length cap))
    have hA3 := (HAr.out.below hbw).setF 0 (.slice (some ⟨g, 0, none⟩) (R.N ++ [(inoN n j)]).length cap)
    have hB3 : Below b w w3 := by rw [hw3]; exact (HBr.out.trans (hbw.mono (by have := HSr.out; omega))).setCell (Nat.le_refl _) _
    have hS3 : b + 3 ≤ w3.heap.size := by rw [hw3]; simp; have := HSr.out; have := hbw.size; omega
    rw [← hw3] at hx hxN hA3
    clear hw3
    have hX : RefV ⟨R.N ++ [(inoN n j)], R.L, R.Cov, R.Dead, R.Above, R.Firsts⟩ w3 (fun k => (ok3 ok b k ∧ k < wr.heap.size) ∨ wd.heap.size ≤ k) #[.slice (some ⟨g, 0, none⟩) (R.N ++ [(inoN n j)]).length cap, .slice A1 R.L.length c1, .slice A2 R.Cov.length c2, .slice A3 R.Dead.length c3, .slice A4 R.Above.length c4, .slice A5 R.Firsts.length c5] := (hx.mono (fun k hk => Or.inl hk)).rowN (V_re hxN (fun k hk => Or.inr hk.1))
    obtain ⟨L0, hL0⟩ : ∃ L0, L0 = (R.N ++ [(inoN n j)]).length := ⟨_, rfl⟩
    rw [← hL0] at hX hA3 ⊢
    obtain ⟨okA, hokA⟩ : ∃ f : Nat → Prop, f = (fun k => (ok3 ok b k ∧ k < wr.heap.size) ∨ wd.heap.size ≤ k) := ⟨_, rfl⟩
    have HOK : Aside0 (∀ k, okA k → (ok k ∨ b ≤ k) ∧ (k < b ∨ b + 3 ≤ k)) := ⟨fun k hk => by rw [hokA] at hk; have := HSr.out; rcases hk with ⟨hk, _⟩ | hk; rcases hk with ⟨h1, h2⟩ | h2; exact ⟨Or.inl h1, Or.inl h2⟩; exact ⟨Or.inr (by omega), Or.inr h2⟩; exact ⟨Or.inr (by omega), Or.inr (by omega)⟩⟩
    rw [← hokA] at hX
    have HX := Aside0.mk hX
    have HA3 := Aside0.mk hA3
    have HB3 := Aside0.mk hB3
    have HS3 := Aside0.mk hS3
    clear hokA hX hA3 hB3 hS3 hx hxN hL0 hf1 hz1 hbw hbd hsd hHeld hR2 hB2 hBJ hCL hCL' hlL hgl hgb hgs hneb HVr HBr HSr HAr f0 f1 f2 f3 f4 f5 n0 n1 n2 n3 n4 n5 n6 n7 n8 n9 n10 n11 n12 zn
    obtain ⟨f0, f1, f2, f3, f4, f5⟩ := boxR_cells HA3.out.f
    have zb := blk_frozen HA3.out.f 2
    have hl0 : b < w3.heap.size := by have := HS3.out; omega
    have HC := Aside0.mk (V_C HX.out.vs.2.2.1)
    have hl3 : R.Cov.length * 8 ≤ 140737488355328 := by have := HO.out.2; omega
    have hm3 : (R.Cov.length + 1) * 8 ≤ 140737488355328 := by have := HO.out.2; omega
    have HL := Aside0.mk hl3
    have HM := Aside0.mk hm3
    clear hl3 hm3
    go_wp2_with (at_builtin; refine wp_copy kI KM_I rfl (.tmp 37) (.tmp 39) 45 3 (.int .i64 0) 8 rfl Try.underlying45 info3 rfl (by decide) (by decide) w3.heap.size rfl A2 _ _ R.Cov rfl rfl HC.out HL.out ?_)
    intro v3 x3 hR3 hB3
    have hx3 : b + 3 ≤ x3.heap.size := Nat.le_trans HS3.out hB3.size
    go_wp2_with (at_builtin; refine Kd.R_append kI (w0 := w3) w3.heap.size rfl (.tmp 40) (.tmp 41) 45 3 (.int .i64 0) 8 rfl Try.underlying45 info3 rfl (by decide) (by decide) v3 R.Cov (-1 : Int) [.int .i64 (-1)] (fun k => w3.heap.size ≤ k) (fun _ => False) rfl rfl rfl (fun _ h => h.elim) (fun k hk => Nat.le_trans hB3.size hk) hR3 hB3 hB3.size HM.out ?_)
    intro u3 y3 hP3 hQ3 _ _
    clear hR3 hB3 hx3 HC HL HM
    obtain ⟨g3, cap3, hv3, hgl, hgb, _⟩ := R_form hP3 (by simp)
    obtain ⟨L3, hL3⟩ : ∃ L, L = (R.Cov ++ [(-1 : Int)]).length := ⟨_, rfl⟩
    rw [← hL3] at hv3
    subst hv3
    clear hL3
    have hf3 : y3.cell? ⟨b, 2, none⟩ = some (.slice A2 R.Cov.length c2) := pw_cell_below hQ3 f2
    have hz3 : y3.frozen? ⟨b, 2, none⟩ = false := by have h0 := (hQ3.block b hl0).trans HA3.out.f; exact blk_frozen h0 2
    clear f0 f1 f2 f3 f4 f5 zb
    go_upto_region 9 with fail
    obtain ⟨w4, hw4⟩ : ∃ X, X = y3.setCell ⟨b, 2, none⟩ (.slice (some ⟨g3, 0, none⟩) L3 cap3) := ⟨_, rfl⟩
    rw [← hw4]
    have hx := RefV.set (HX.out.bound.below hQ3) b 2 (.slice (some ⟨g3, 0, none⟩) L3 cap3) (fun k hk => by have := (HOK.out k hk.1).2; omega)
    have hxN := Kd.R_V (base' := 0) (Kd.R_far (p := ⟨b, 2, none⟩) hP3 (fun k hk => by have h1 : w3.heap.size ≤ k := hk; have := HS3.out; show k ≠ b; omega) (.slice (some ⟨g3, 0, none⟩) L3 cap3))
    have hA := (HA3.out.below hQ3).setF 2 (.slice (some ⟨g3, 0, none⟩) L3 cap3)
    have hB : Below b w w4 := by rw [hw4]; exact (HB3.out.trans (hQ3.mono (by have := HS3.out; omega))).setCell (Nat.le_refl _) _
    have hS : b + 3 ≤ w4.heap.size := by rw [hw4]; simp; have := HS3.out; have := hQ3.size; omega
    rw [← hw4] at hx hxN hA
    clear hw4
    have hX := (hx.mono (ok' := fun k => okA k ∨ w3.heap.size ≤ k) (fun k hk => Or.inl hk.1)).rowC (V_re hxN (fun k hk => Or.inr hk))
    obtain ⟨okA4, hokA⟩ : ∃ f : Nat → Prop, f = (fun k => okA k ∨ w3.heap.size ≤ k) := ⟨_, rfl⟩
    have HOK4 : Aside0 (∀ k, okA4 k → (ok k ∨ b ≤ k) ∧ (k < b ∨ b + 3 ≤ k)) := ⟨fun k hk => by rw [hokA] at hk; have := HS3.out; rcases hk with hk | hk; exact HOK.out k hk; exact ⟨Or.inr (by omega), Or.inr (by omega)⟩⟩
    rw [← hokA] at hX
    have HX4 := Aside0.mk hX
    have HA4 := Aside0.mk hA
    have HB4 := Aside0.mk hB
    have HS4 := Aside0.mk hS
    clear hokA hX hA hB hS hx hxN hf3 hz3 hP3 hQ3 hgl hgb hl0 HX HA3 HB3 HS3 HOK
    obtain ⟨f0, f1, f2, f3, f4, f5⟩ := boxR_cells HA4.out.f
    have zb := blk_frozen HA4.out.f 3
    have hl0 : b < w4.heap.size := by have := HS4.out; omega
    have HC := Aside0.mk (V_C HX4.out.vs.2.2.2.1)
    have hl4 : R.Dead.length * 1 ≤ 140737488355328 := by have := HO.out.2; omega
    have hm4 : (R.Dead.length + 1) * 1 ≤ 140737488355328 := by have := HO.out.2; omega
    have HL := Aside0.mk hl4
    have HM := Aside0.mk hm4
    clear hl4 hm4
    go_wp2_with (at_builtin; refine wp_copy Kd.bool KM_B rfl (.tmp 44) (.tmp 46) 46 4 (.bool false) 1 rfl Try.underlying46 info4 rfl (by decide) (by decide) w4.heap.size rfl A3 _ _ R.Dead rfl rfl HC.out HL.out ?_)
    intro v4 x4 hR4 hB4
    have hx4 : b + 3 ≤ x4.heap.size := Nat.le_trans HS4.out hB4.size
    go_wp2_with (at_builtin; refine Kd.R_append Kd.bool (w0 := w4) w4.heap.size rfl (.tmp 47) (.tmp 48) 46 4 (.bool false) 1 rfl Try.underlying46 info4 rfl (by decide) (by decide) v4 R.Dead false [.bool false] (fun k => w4.heap.size ≤ k) (fun _ => False) rfl rfl rfl (fun _ h => h.elim) (fun k hk => Nat.le_trans hB4.size hk) hR4 hB4 hB4.size HM.out ?_)
    intro u4 y4 hP4 hQ4 _ _
    clear hR4 hB4 hx4 HC HL HM
    obtain ⟨g4, cap4, hv4, hgl, hgb, _⟩ := R_form hP4 (by simp)
    obtain ⟨L4, hL4⟩ : ∃ L, L = (R.Dead ++ [false]).length := ⟨_, rfl⟩
    rw [← hL4] at hv4
    subst hv4
    clear hL4
    have hf4 : y4.cell? ⟨b, 3, none⟩ = some (.slice A3 R.Dead.length c3) := pw_cell_below hQ4 f3
    have hz4 : y4.frozen? ⟨b, 3, none⟩ = false := by have h0 := (hQ4.block b hl0).trans HA4.out.f; exact blk_frozen h0 3
    clear f0 f1 f2 f3 f4 f5 zb
    go_upto_region 10 with fail
    obtain ⟨w5, hw5⟩ : ∃ X, X = y4.setCell ⟨b, 3, none⟩ (.slice (some ⟨g4, 0, none⟩) L4 cap4) := ⟨_, rfl⟩
    rw [← hw5]
    have hx := RefV.set (HX4.out.bound.below hQ4) b 3 (.slice (some ⟨g4, 0, none⟩) L4 cap4) (fun k hk => by have := (HOK4.out k hk.1).2; omega)
    have hxN := Kd.R_V (base' := 0) (Kd.R_far (p := ⟨b, 3, none⟩) hP4 (fun k hk => by have h1 : w4.heap.size ≤ k := hk; have := HS4.out; show k ≠ b; omega) (.slice (some ⟨g4, 0, none⟩) L4 cap4))
    have hA := (HA4.out.below hQ4).setF 3 (.slice (some ⟨g4, 0, none⟩) L4 cap4)
    have hB : Below b w w5 := by rw [hw5]; exact (HB4.out.trans (hQ4.mono (by have := HS4.out; omega))).setCell (Nat.le_refl _) _
    have hS : b + 3 ≤ w5.heap.size := by rw [hw5]; simp; have := HS4.out; have := hQ4.size; omega
    rw [← hw5] at hx hxN hA
    clear hw5
    have hX := (hx.mono (ok' := fun k => okA4 k ∨ w4.heap.size ≤ k) (fun k hk => Or.inl hk.1)).rowD (V_re hxN (fun k hk => Or.inr hk))
    obtain ⟨okA5, hokA⟩ : ∃ f : Nat → Prop, f = (fun k => okA4 k ∨ w4.heap.size ≤ k) := ⟨_, rfl⟩
    have HOK5 : Aside0 (∀ k, okA5 k → (ok k ∨ b ≤ k) ∧ (k < b ∨ b + 3 ≤ k)) := ⟨fun k hk => by rw [hokA] at hk; have := HS4.out; rcases hk with hk | hk; exact HOK4.out k hk; exact ⟨Or.inr (by omega), Or.inr (by omega)⟩⟩
    rw [← hokA] at hX
    have HX5 := Aside0.mk hX
    have HA5 := Aside0.mk hA
    have HB5 := Aside0.mk hB
    have HS5 := Aside0.mk hS
    clear hokA hX hA hB hS hx hxN hf4 hz4 hP4 hQ4 hgl hgb hl0 HX4 HA4 HB4 HS4 HOK4
    obtain ⟨f0, f1, f2, f3, f4, f5⟩ := boxR_cells HA5.out.f
    have zb := blk_frozen HA5.out.f 4
    have hl0 : b < w5.heap.size := by have := HS5.out; omega
    have HC := Aside0.mk (V_C HX5.out.vs.2.2.2.2.1)
    have hl5 : R.Above.length * 8 ≤ 140737488355328 := by have := HO.out.2; omega
    have hm5 : (R.Above.length + 1) * 8 ≤ 140737488355328 := by have := HO.out.2; omega
    have HL := Aside0.mk hl5
    have HM := Aside0.mk hm5
    clear hl5 hm5
    go_wp2_with (at_builtin; refine wp_copy kI KM_I rfl (.tmp 51) (.tmp 53) 45 3 (.int .i64 0) 8 rfl Try.underlying45 info3 rfl (by decide) (by decide) w5.heap.size rfl A4 _ _ R.Above rfl rfl HC.out HL.out ?_)
    intro v5 x5 hR5 hB5
    have hx5 : b + 3 ≤ x5.heap.size := Nat.le_trans HS5.out hB5.size
    go_wp2_with (at_builtin; refine Kd.R_append kI (w0 := w5) w5.heap.size rfl (.tmp 54) (.tmp 56) 45 3 (.int .i64 0) 8 rfl Try.underlying45 info3 rfl (by decide) (by decide) v5 R.Above up [.int .i64 up] (fun k => w5.heap.size ≤ k) (fun _ => False) rfl rfl rfl (fun _ h => h.elim) (fun k hk => Nat.le_trans hB5.size hk) hR5 hB5 hB5.size HM.out ?_)
    intro u5 y5 hP5 hQ5 _ _
    clear hR5 hB5 hx5 HC HL HM
    obtain ⟨g5, cap5, hv5, hgl, hgb, _⟩ := R_form hP5 (by simp)
    obtain ⟨L5, hL5⟩ : ∃ L, L = (R.Above ++ [up]).length := ⟨_, rfl⟩
    rw [← hL5] at hv5
    subst hv5
    clear hL5
    have hf5 : y5.cell? ⟨b, 4, none⟩ = some (.slice A4 R.Above.length c4) := pw_cell_below hQ5 f4
    have hz5 : y5.frozen? ⟨b, 4, none⟩ = false := by have h0 := (hQ5.block b hl0).trans HA5.out.f; exact blk_frozen h0 4
    clear f0 f1 f2 f3 f4 f5 zb
    go_upto_region 11 with fail
    obtain ⟨w6, hw6⟩ : ∃ X, X = y5.setCell ⟨b, 4, none⟩ (.slice (some ⟨g5, 0, none⟩) L5 cap5) := ⟨_, rfl⟩
    rw [← hw6]
    have hx := RefV.set (HX5.out.bound.below hQ5) b 4 (.slice (some ⟨g5, 0, none⟩) L5 cap5) (fun k hk => by have := (HOK5.out k hk.1).2; omega)
    have hxN := Kd.R_V (base' := 0) (Kd.R_far (p := ⟨b, 4, none⟩) hP5 (fun k hk => by have h1 : w5.heap.size ≤ k := hk; have := HS5.out; show k ≠ b; omega) (.slice (some ⟨g5, 0, none⟩) L5 cap5))
    have hA := (HA5.out.below hQ5).setF 4 (.slice (some ⟨g5, 0, none⟩) L5 cap5)
    have hB : Below b w w6 := by rw [hw6]; exact (HB5.out.trans (hQ5.mono (by have := HS5.out; omega))).setCell (Nat.le_refl _) _
    have hS : b + 3 ≤ w6.heap.size := by rw [hw6]; simp; have := HS5.out; have := hQ5.size; omega
    rw [← hw6] at hx hxN hA
    clear hw6
    have hX := (hx.mono (ok' := fun k => okA5 k ∨ w5.heap.size ≤ k) (fun k hk => Or.inl hk.1)).rowA (V_re hxN (fun k hk => Or.inr hk))
    obtain ⟨okA6, hokA⟩ : ∃ f : Nat → Prop, f = (fun k => okA5 k ∨ w5.heap.size ≤ k) := ⟨_, rfl⟩
    have HOK6 : Aside0 (∀ k, okA6 k → (ok k ∨ b ≤ k) ∧ (k < b ∨ b + 3 ≤ k)) := ⟨fun k hk => by rw [hokA] at hk; have := HS5.out; rcases hk with hk | hk; exact HOK5.out k hk; exact ⟨Or.inr (by omega), Or.inr (by omega)⟩⟩
    rw [← hokA] at hX
    have HX6 := Aside0.mk hX
    have HA6 := Aside0.mk hA
    have HB6 := Aside0.mk hB
    have HS6 := Aside0.mk hS
    clear hokA hX hA hB hS hx hxN hf5 hz5 hP5 hQ5 hgl hgb hl0 HX5 HA5 HB5 HS5 HOK5
    obtain ⟨f0, f1, f2, f3, f4, f5⟩ := boxR_cells HA6.out.f
    obtain ⟨r0, r1, r2, r3, r4, r5⟩ := boxR_cells HA6.out.r
    have zr0 := blk_frozen HA6.out.r 0
    have zr1 := blk_frozen HA6.out.r 1
    have zr2 := blk_frozen HA6.out.r 2
    have zr3 := blk_frozen HA6.out.r 3
    have zr4 := blk_frozen HA6.out.r 4
    have zr5 := blk_frozen HA6.out.r 5
    go_wp2_with fail
    refine bodyPost_ret (v := .agg #[.slice (some ⟨g, 0, none⟩) L0 cap, .slice A1 R.L.length c1, .slice (some ⟨g3, 0, none⟩) L3 cap3, .slice (some ⟨g4, 0, none⟩) L4 cap4, .slice (some ⟨g5, 0, none⟩) L5 cap5, .slice A5 R.Firsts.length c5]) (by simp [results, Try.results32, go_sem, r0, r1, r2, r3, r4, r5]) rfl ⟨_, rfl, ?_, ?_⟩
    ·have hne : ∀ k, okA6 k → k ≠ b + 1 + 1 := fun k hk => by have := (HOK6.out k hk).2; omega
     have e9 : j = 1 + R.cnt n.f0 := by rw [HJ.out]; unfold Ref.cntTo Ref.cnt; rw [List.take_of_length_le (by omega)]
     subst e9
     exact ((((((HX6.out.set _ 0 _ hne).set _ 1 _ hne).set _ 2 _ hne).set _ 3 _ hne).set _ 4 _ hne).set _ 5 _ hne).mono (ok' := fun k => ok k ∨ w.heap.size ≤ k) (fun k hk => by rw [← Hb.out]; exact (HOK6.out k hk).1)
    ·have hge : b ≤ b + 1 + 1 := by omega
     rw [← Hb.out]
     exact (((((HB6.out.setCell hge _).setCell hge _).setCell hge _).setCell hge _).setCell hge _).setCell hge _
   ·intro hCont
    refine two_ (i := 0) (j := 5) (Ni := some 29) (Nj := some 34) #[true, true, true, false, true, false, false, false, false] #[false, true, true, false, true, true, false, false, false] rfl rfl rfl rfl (by kernel_rfl) (by decide) (by decide) (fun K hK => ?_) (fun K hK => ?_)
    ·refine value_ (v := .slice (some ⟨(wd).heap.size, 0, none⟩) 0 0) (w1 := (wd).alloc (.cells #[] 36)) (by rfl) rfl (by go_simp) ?_
     refine hK.out _ _ ⟨pw_cell_below (below_all _) hHeld.1, pw_cell_below (below_all _) hHeld.2.1, pw_cell_below (below_all _) hHeld.2.2.1, pw_cell_below (below_all _) hHeld.2.2.2.1, pw_cell_below (below_all _) hHeld.2.2.2.2.1, pw_cell_below (below_all _) hHeld.2.2.2.2.2.1, pw_cell_below (below_all _) hHeld.2.2.2.2.2.2.1, pw_cell_below (below_all _) hHeld.2.2.2.2.2.2.2.1, pw_cell_below (below_all _) hHeld.2.2.2.2.2.2.2.2.1, pw_cell_below (below_all _) hHeld.2.2.2.2.2.2.2.2.2.1, pw_cell_below (below_all _) hHeld.2.2.2.2.2.2.2.2.2.2.1, pw_cell_below (below_all _) hHeld.2.2.2.2.2.2.2.2.2.2.2.1, pw_cell_below (below_all _) hHeld.2.2.2.2.2.2.2.2.2.2.2.2.1, pw_cell_below (below_all _) hHeld.2.2.2.2.2.2.2.2.2.2.2.2.2⟩ (fun _ => ?_)
     clear hK K
     refine norm_ (a' := ?_) ?_ ?_
     rotate_left
     ·show Act.put _ (some 29) _ = _
      simp only [Act.put, List.setIfInBounds_toArray, List.set_cons_zero, List.set_cons_succ]
      rfl
     have hB0 : Below wd.heap.size wd (wd.alloc (.cells #[] 36)) := below_all _
     obtain ⟨wa, hwa⟩ : ∃ wa, wa = wd.alloc (.cells #[] 36) := ⟨_, rfl⟩
     have hsa : wa.heap.size = wd.heap.size + 1 := by rw [hwa]; simp
     have hRa : ∀ ok : Nat → Prop, (∀ k, k = wd.heap.size → ok k) → kN.R 36 wa wd.heap.size ok (.slice (some ⟨wd.heap.size, 0, none⟩) 0 0) [] := fun ok hok => by rw [hwa]; exact Kd.R_mono (Kd.R_reok (ok := fun k => k = wd.heap.size) rfl (R_made kN 36 wd (fun _ => True) (fun _ _ => trivial)) (fun k hk => by simpa [Value.ownBlock] using hk.symm)) hok
     rw [← hwa] at hB0 ⊢
     clear hwa
     refine two_ (i := 3) (j := 5) (Ni := some 32) (Nj := some 34) #[true, true, true, true, true, false, false, false, false] #[true, true, true, false, true, true, false, false, false] rfl rfl rfl rfl (by kernel_rfl) (by decide) (by decide) (fun K hK => ?_) (fun K hK => ?_)
     ·refine step_C kN KM_N (w0 := wd) wd.heap.size (by rfl) (.tmp 29) (.tmp 31) 43 36 (.agg #[.int .i64 0, .int .i64 0, .int .i64 0, .int .i64 0, .int .i64 0, .int .i64 0, .int .i64 0, .int .i64 0, .int .i64 0, .int .i64 0, .int .i64 0, .int .i64 0, .string ⟨#[]⟩]) 112 rfl Try.underlying43 info36 rfl (by decide) (by decide) (.slice (some ⟨wd.heap.size, 0, none⟩) 0 0) [] R.N A0 _ _ (fun k => wd.heap.size ≤ k) (by rfl) (by rfl) (hRa _ (fun k hk => by omega)) (Kd.C_below hCL' hB0) (fun k hk => by omega) hB0 hB0.size (by simp; omega) ?_
      intro v32 w2 hR2 hB2 _
      refine hK.out _ _ ⟨pw_cell_below hB2 hHeld.1, pw_cell_below hB2 hHeld.2.1, pw_cell_below hB2 hHeld.2.2.1, pw_cell_below hB2 hHeld.2.2.2.1, pw_cell_below hB2 hHeld.2.2.2.2.1, pw_cell_below hB2 hHeld.2.2.2.2.2.1, pw_cell_below hB2 hHeld.2.2.2.2.2.2.1, pw_cell_below hB2 hHeld.2.2.2.2.2.2.2.1, pw_cell_below hB2 hHeld.2.2.2.2.2.2.2.2.1, pw_cell_below hB2 hHeld.2.2.2.2.2.2.2.2.2.1, pw_cell_below hB2 hHeld.2.2.2.2.2.2.2.2.2.2.1, pw_cell_below hB2 hHeld.2.2.2.2.2.2.2.2.2.2.2.1, pw_cell_below hB2 hHeld.2.2.2.2.2.2.2.2.2.2.2.2.1, pw_cell_below hB2 hHeld.2.2.2.2.2.2.2.2.2.2.2.2.2⟩ (fun _ => ?_)
      clear hK K
      refine norm_ (a' := ?_) ?_ ?_
      rotate_left
      ·show Act.put _ (some 32) _ = _
       simp only [Act.put, List.setIfInBounds_toArray, List.set_cons_zero, List.set_cons_succ]
       rfl
      refine one_ (i := 5) (N := some 34) #[true, true, true, true, true, true, false, false, false] rfl rfl (by kernel_rfl) (by decide) (fun K hK => ?_)
      refine value_ (v := .slice (some ⟨(w2).heap.size, 0, none⟩) 1 1) (w1 := (w2).alloc (.cells #[.int .i64 n.f0, .int .i64 j, .int .i64 n.f2, .int .i64 n.f3, .int .i64 n.f4, .int .i64 n.f5, .int .i64 n.f6, .int .i64 n.f7, .int .i64 n.f8, .int .i64 n.f9.f0, .int .i64 n.f9.f1, .int .i64 n.f9.f2, .string n.f10] 36)) (by rfl) rfl (by go_simp) ?_
      have hb3 := hB2.alloc hB2.size (.cells #[.int .i64 n.f0, .int .i64 j, .int .i64 n.f2, .int .i64 n.f3, .int .i64 n.f4, .int .i64 n.f5, .int .i64 n.f6, .int .i64 n.f7, .int .i64 n.f8, .int .i64 n.f9.f0, .int .i64 n.f9.f1, .int .i64 n.f9.f2, .string n.f10] 36)
      refine hK.out _ _ ⟨pw_cell_below hb3 hHeld.1, pw_cell_below hb3 hHeld.2.1, pw_cell_below hb3 hHeld.2.2.1, pw_cell_below hb3 hHeld.2.2.2.1, pw_cell_below hb3 hHeld.2.2.2.2.1, pw_cell_below hb3 hHeld.2.2.2.2.2.1, pw_cell_below hb3 hHeld.2.2.2.2.2.2.1, pw_cell_below hb3 hHeld.2.2.2.2.2.2.2.1, pw_cell_below hb3 hHeld.2.2.2.2.2.2.2.2.1, pw_cell_below hb3 hHeld.2.2.2.2.2.2.2.2.2.1, pw_cell_below hb3 hHeld.2.2.2.2.2.2.2.2.2.2.1, pw_cell_below hb3 hHeld.2.2.2.2.2.2.2.2.2.2.2.1, pw_cell_below hb3 hHeld.2.2.2.2.2.2.2.2.2.2.2.2.1, pw_cell_below hb3 hHeld.2.2.2.2.2.2.2.2.2.2.2.2.2⟩ (fun _ => ?_)
      clear hK K
      exact hCont (.slice (some ⟨wd.heap.size, 0, none⟩) 0 0, v32, .slice (some ⟨w2.heap.size, 0, none⟩) 1 1) _ ⟨w2.heap.size, rfl, Kd.R_alloc (Kd.R_mono (Kd.R_bound (by simpa using hR2)) (fun k hk => ⟨hk.1, by have := hk.2.2.1; omega⟩)) _, heap_alloc_new _ _, hB2.size, hb3⟩
     ·refine value_ (v := .slice (some ⟨(wa).heap.size, 0, none⟩) 1 1) (w1 := (wa).alloc (.cells #[.int .i64 n.f0, .int .i64 j, .int .i64 n.f2, .int .i64 n.f3, .int .i64 n.f4, .int .i64 n.f5, .int .i64 n.f6, .int .i64 n.f7, .int .i64 n.f8, .int .i64 n.f9.f0, .int .i64 n.f9.f1, .int .i64 n.f9.f2, .string n.f10] 36)) (by rfl) rfl (by go_simp) ?_
      have hb3 := hB0.alloc hB0.size (.cells #[.int .i64 n.f0, .int .i64 j, .int .i64 n.f2, .int .i64 n.f3, .int .i64 n.f4, .int .i64 n.f5, .int .i64 n.f6, .int .i64 n.f7, .int .i64 n.f8, .int .i64 n.f9.f0, .int .i64 n.f9.f1, .int .i64 n.f9.f2, .string n.f10] 36)
      refine hK.out _ _ ⟨pw_cell_below hb3 hHeld.1, pw_cell_below hb3 hHeld.2.1, pw_cell_below hb3 hHeld.2.2.1, pw_cell_below hb3 hHeld.2.2.2.1, pw_cell_below hb3 hHeld.2.2.2.2.1, pw_cell_below hb3 hHeld.2.2.2.2.2.1, pw_cell_below hb3 hHeld.2.2.2.2.2.2.1, pw_cell_below hb3 hHeld.2.2.2.2.2.2.2.1, pw_cell_below hb3 hHeld.2.2.2.2.2.2.2.2.1, pw_cell_below hb3 hHeld.2.2.2.2.2.2.2.2.2.1, pw_cell_below hb3 hHeld.2.2.2.2.2.2.2.2.2.2.1, pw_cell_below hb3 hHeld.2.2.2.2.2.2.2.2.2.2.2.1, pw_cell_below hb3 hHeld.2.2.2.2.2.2.2.2.2.2.2.2.1, pw_cell_below hb3 hHeld.2.2.2.2.2.2.2.2.2.2.2.2.2⟩ (fun _ => ?_)
      clear hK K
      refine norm_ (a' := ?_) ?_ ?_
      rotate_left
      ·show Act.put _ (some 34) _ = _
       simp only [Act.put, List.setIfInBounds_toArray, List.set_cons_zero, List.set_cons_succ]
       rfl
      have hbi := heap_alloc_new wa (.cells #[.int .i64 n.f0, .int .i64 j, .int .i64 n.f2, .int .i64 n.f3, .int .i64 n.f4, .int .i64 n.f5, .int .i64 n.f6, .int .i64 n.f7, .int .i64 n.f8, .int .i64 n.f9.f0, .int .i64 n.f9.f1, .int .i64 n.f9.f2, .string n.f10] 36)
      refine one_ (i := 3) (N := some 32) #[true, true, true, true, true, true, false, false, false] rfl rfl (by kernel_rfl) (by decide) (fun K hK => ?_)
      refine step_C kN KM_N (w0 := wd) wd.heap.size (by rfl) (.tmp 29) (.tmp 31) 43 36 (.agg #[.int .i64 0, .int .i64 0, .int .i64 0, .int .i64 0, .int .i64 0, .int .i64 0, .int .i64 0, .int .i64 0, .int .i64 0, .int .i64 0, .int .i64 0, .int .i64 0, .string ⟨#[]⟩]) 112 rfl Try.underlying43 info36 rfl (by decide) (by decide) (.slice (some ⟨wd.heap.size, 0, none⟩) 0 0) [] R.N A0 _ _ (fun k => wd.heap.size ≤ k ∧ k ≠ wa.heap.size) (by rfl) (by rfl) (Kd.R_alloc (hRa _ (fun k hk => ⟨by omega, by omega⟩)) _) (Kd.C_below hCL' hb3) (fun k hk => by simp at hk; exact ⟨by omega, by omega⟩) hb3 hb3.size (by simp; omega) ?_
      intro v32 w2 hR2 hB2 hg2
      refine hK.out _ _ ⟨pw_cell_below hB2 hHeld.1, pw_cell_below hB2 hHeld.2.1, pw_cell_below hB2 hHeld.2.2.1, pw_cell_below hB2 hHeld.2.2.2.1, pw_cell_below hB2 hHeld.2.2.2.2.1, pw_cell_below hB2 hHeld.2.2.2.2.2.1, pw_cell_below hB2 hHeld.2.2.2.2.2.2.1, pw_cell_below hB2 hHeld.2.2.2.2.2.2.2.1, pw_cell_below hB2 hHeld.2.2.2.2.2.2.2.2.1, pw_cell_below hB2 hHeld.2.2.2.2.2.2.2.2.2.1, pw_cell_below hB2 hHeld.2.2.2.2.2.2.2.2.2.2.1, pw_cell_below hB2 hHeld.2.2.2.2.2.2.2.2.2.2.2.1, pw_cell_below hB2 hHeld.2.2.2.2.2.2.2.2.2.2.2.2.1, pw_cell_below hB2 hHeld.2.2.2.2.2.2.2.2.2.2.2.2.2⟩ (fun _ => ?_)
      clear hK K
      exact hCont (.slice (some ⟨wd.heap.size, 0, none⟩) 0 0, v32, .slice (some ⟨wa.heap.size, 0, none⟩) 1 1) _ ⟨wa.heap.size, rfl, by simpa using hR2, (hg2.block _ (by simp) (by simp [Value.ownBlock]; omega)).trans hbi, by omega, hB2⟩
    ·refine value_ (v := .slice (some ⟨(wd).heap.size, 0, none⟩) 1 1) (w1 := (wd).alloc (.cells #[.int .i64 n.f0, .int .i64 j, .int .i64 n.f2, .int .i64 n.f3, .int .i64 n.f4, .int .i64 n.f5, .int .i64 n.f6, .int .i64 n.f7, .int .i64 n.f8, .int .i64 n.f9.f0, .int .i64 n.f9.f1, .int .i64 n.f9.f2, .string n.f10] 36)) (by rfl) rfl (by go_simp) ?_
     refine hK.out _ _ ⟨pw_cell_below (below_all _) hHeld.1, pw_cell_below (below_all _) hHeld.2.1, pw_cell_below (below_all _) hHeld.2.2.1, pw_cell_below (below_all _) hHeld.2.2.2.1, pw_cell_below (below_all _) hHeld.2.2.2.2.1, pw_cell_below (below_all _) hHeld.2.2.2.2.2.1, pw_cell_below (below_all _) hHeld.2.2.2.2.2.2.1, pw_cell_below (below_all _) hHeld.2.2.2.2.2.2.2.1, pw_cell_below (below_all _) hHeld.2.2.2.2.2.2.2.2.1, pw_cell_below (below_all _) hHeld.2.2.2.2.2.2.2.2.2.1, pw_cell_below (below_all _) hHeld.2.2.2.2.2.2.2.2.2.2.1, pw_cell_below (below_all _) hHeld.2.2.2.2.2.2.2.2.2.2.2.1, pw_cell_below (below_all _) hHeld.2.2.2.2.2.2.2.2.2.2.2.2.1, pw_cell_below (below_all _) hHeld.2.2.2.2.2.2.2.2.2.2.2.2.2⟩ (fun _ => ?_)
     clear hK K
     refine norm_ (a' := ?_) ?_ ?_
     rotate_left
     ·show Act.put _ (some 34) _ = _
      simp only [Act.put, List.setIfInBounds_toArray, List.set_cons_zero, List.set_cons_succ]
      rfl
     have hB0 : Below wd.heap.size wd (wd.alloc (.cells #[.int .i64 n.f0, .int .i64 j, .int .i64 n.f2, .int .i64 n.f3, .int .i64 n.f4, .int .i64 n.f5, .int .i64 n.f6, .int .i64 n.f7, .int .i64 n.f8, .int .i64 n.f9.f0, .int .i64 n.f9.f1, .int .i64 n.f9.f2, .string n.f10] 36)) := below_all _
     have hbi := heap_alloc_new wd (.cells #[.int .i64 n.f0, .int .i64 j, .int .i64 n.f2, .int .i64 n.f3, .int .i64 n.f4, .int .i64 n.f5, .int .i64 n.f6, .int .i64 n.f7, .int .i64 n.f8, .int .i64 n.f9.f0, .int .i64 n.f9.f1, .int .i64 n.f9.f2, .string n.f10] 36)
     obtain ⟨wa, hwa⟩ : ∃ wa, wa = wd.alloc (.cells #[.int .i64 n.f0, .int .i64 j, .int .i64 n.f2, .int .i64 n.f3, .int .i64 n.f4, .int .i64 n.f5, .int .i64 n.f6, .int .i64 n.f7, .int .i64 n.f8, .int .i64 n.f9.f0, .int .i64 n.f9.f1, .int .i64 n.f9.f2, .string n.f10] 36) := ⟨_, rfl⟩
     have hsa : wa.heap.size = wd.heap.size + 1 := by rw [hwa]; simp
     rw [← hwa] at hB0 hbi ⊢
     clear hwa
     refine one_ (i := 0) (N := some 29) #[true, true, true, false, true, true, false, false, false] rfl rfl (by kernel_rfl) (by decide) (fun K hK => ?_)
     refine value_ (v := .slice (some ⟨(wa).heap.size, 0, none⟩) 0 0) (w1 := (wa).alloc (.cells #[] 36)) (by rfl) rfl (by go_simp) ?_
     have hb3 := hB0.alloc hB0.size (.cells #[] 36)
     refine hK.out _ _ ⟨pw_cell_below hb3 hHeld.1, pw_cell_below hb3 hHeld.2.1, pw_cell_below hb3 hHeld.2.2.1, pw_cell_below hb3 hHeld.2.2.2.1, pw_cell_below hb3 hHeld.2.2.2.2.1, pw_cell_below hb3 hHeld.2.2.2.2.2.1, pw_cell_below hb3 hHeld.2.2.2.2.2.2.1, pw_cell_below hb3 hHeld.2.2.2.2.2.2.2.1, pw_cell_below hb3 hHeld.2.2.2.2.2.2.2.2.1, pw_cell_below hb3 hHeld.2.2.2.2.2.2.2.2.2.1, pw_cell_below hb3 hHeld.2.2.2.2.2.2.2.2.2.2.1, pw_cell_below hb3 hHeld.2.2.2.2.2.2.2.2.2.2.2.1, pw_cell_below hb3 hHeld.2.2.2.2.2.2.2.2.2.2.2.2.1, pw_cell_below hb3 hHeld.2.2.2.2.2.2.2.2.2.2.2.2.2⟩ (fun _ => ?_)
     clear hK K
     refine norm_ (a' := ?_) ?_ ?_
     rotate_left
     ·show Act.put _ (some 29) _ = _
      simp only [Act.put, List.setIfInBounds_toArray, List.set_cons_zero, List.set_cons_succ]
      rfl
     refine one_ (i := 3) (N := some 32) #[true, true, true, true, true, true, false, false, false] rfl rfl (by kernel_rfl) (by decide) (fun K hK => ?_)
     refine step_C kN KM_N (w0 := wd) wd.heap.size (by rfl) (.tmp 29) (.tmp 31) 43 36 (.agg #[.int .i64 0, .int .i64 0, .int .i64 0, .int .i64 0, .int .i64 0, .int .i64 0, .int .i64 0, .int .i64 0, .int .i64 0, .int .i64 0, .int .i64 0, .int .i64 0, .string ⟨#[]⟩]) 112 rfl Try.underlying43 info36 rfl (by decide) (by decide) (.slice (some ⟨wa.heap.size, 0, none⟩) 0 0) [] R.N A0 _ _ (fun k => wd.heap.size ≤ k ∧ k ≠ wd.heap.size) (by rfl) (by rfl) (Kd.R_lower (R_made kN 36 wa _ (fun k hk => ⟨by omega, by omega⟩)) (by omega)) (Kd.C_below hCL' hb3) (fun k hk => by simp at hk; exact ⟨by omega, by omega⟩) hb3 hb3.size (by simp; omega) ?_
     intro v32 w2 hR2 hB2 hg2
     refine hK.out _ _ ⟨pw_cell_below hB2 hHeld.1, pw_cell_below hB2 hHeld.2.1, pw_cell_below hB2 hHeld.2.2.1, pw_cell_below hB2 hHeld.2.2.2.1, pw_cell_below hB2 hHeld.2.2.2.2.1, pw_cell_below hB2 hHeld.2.2.2.2.2.1, pw_cell_below hB2 hHeld.2.2.2.2.2.2.1, pw_cell_below hB2 hHeld.2.2.2.2.2.2.2.1, pw_cell_below hB2 hHeld.2.2.2.2.2.2.2.2.1, pw_cell_below hB2 hHeld.2.2.2.2.2.2.2.2.2.1, pw_cell_below hB2 hHeld.2.2.2.2.2.2.2.2.2.2.1, pw_cell_below hB2 hHeld.2.2.2.2.2.2.2.2.2.2.2.1, pw_cell_below hB2 hHeld.2.2.2.2.2.2.2.2.2.2.2.2.1, pw_cell_below hB2 hHeld.2.2.2.2.2.2.2.2.2.2.2.2.2⟩ (fun _ => ?_)
     clear hK K
     exact hCont (.slice (some ⟨wa.heap.size, 0, none⟩) 0 0, v32, .slice (some ⟨wd.heap.size, 0, none⟩) 1 1) _ ⟨wd.heap.size, rfl, by simpa using hR2, (hg2.block _ (by simp; omega) (by simp [Value.ownBlock]; omega)).trans ((Below.heap_alloc wa _ _ (by omega)).trans hbi), Nat.le_refl _, hB2⟩
end Go.Proofs.Ytlfldoghomnbkaa.QVfs
