-- Made by a program of this session.
import Derived.Test.YtnlbjefhbeocmaaDoorVBm
import Derived.Test.YtnlbjefhbeocmaaDoorQOrderComparesx6
import Derived.Test.YtnlbjefhbeocmaaDoorVBm
namespace Go.Proofs.YtnlbjefhbeocmaaDoor.QOrderCompares
open Go.RowKit Go.Proofs.YtnlbjefhbeocmaaDoorW.PrintWords Go.Proofs.YtnlbjefhbeocmaaDoorW.PrintLast Go.Proofs.YtnlbjefhbeocmaaDoorW.PrintMore
attribute [local go_sem] max2_int min2_int max_two min_two max_three min_three max_four min_four   -- for this text's walks alone
open Go.Proofs.YtnlbjefhbeocmaaDoor.Ext
set_option linter.unusedVariables false
set_option linter.unusedSimpArgs false

/-! ### domesdayref10_ahead: function 30 -/
def domesdayref10_ahead.j0 : Nat → Int → Int → Int → Bool → Bool → Bool → ByteArray → Int → Int → Bool → ByteArray → Int → Int → Bool → Option (Bool)
 | 0, _, _, _, _, _, _, _, _, _, _, _, _, _, _ => none
 | k + 1, x0, x3, x4, x30, x175000, x175001, x178000, x178001, x178002, x178003, x179000, x179001, x179002, x179003 => if x30 = true then (some x178003) else ((domesdayref10_Compare.f k x0 x178000 x178001 x178002 x178003 x179000 x179001 x179002 x179003).bind fun t179 => (if x175000 = true then (if (wrap64 (-t179)) < 0 then (some true) else (if (wrap64 (-t179)) = 0 then (some (decide (x3 < x4))) else (some false))) else (if t179 < 0 then (some true) else (if t179 = 0 then (some (decide (x3 < x4))) else (some false)))))
def domesdayref10_ahead.f (k : Nat) (a0 : Int) (a1_0 : Bool) (a1_1 : Bool) (l2 : List (S23)) (a3 : Int) (a4 : Int) : Option (Bool) := if 0 ≤ a3 then (if a3 < (l2.length : Int) then (if 0 ≤ a4 then (if a4 < (l2.length : Int) then (if a1_1 = true then (domesdayref10_ahead.j0 k a0 a3 a4 (((rd_T23 l2 a3).f3) != ((rd_T23 l2 a4).f3)) a1_0 a1_1 ((rd_T23 l2 a3).f0) ((rd_T23 l2 a3).f1) ((rd_T23 l2 a3).f2) ((rd_T23 l2 a3).f3) ((rd_T23 l2 a4).f0) ((rd_T23 l2 a4).f1) ((rd_T23 l2 a4).f2) ((rd_T23 l2 a4).f3)) else (domesdayref10_ahead.j0 k a0 a3 a4 false a1_0 a1_1 ((rd_T23 l2 a3).f0) ((rd_T23 l2 a3).f1) ((rd_T23 l2 a3).f2) ((rd_T23 l2 a3).f3) ((rd_T23 l2 a4).f0) ((rd_T23 l2 a4).f1) ((rd_T23 l2 a4).f2) ((rd_T23 l2 a4).f3))) else (none)) else (none)) else (none)) else (none)
theorem domesdayref10_ahead.mono_l : ∀ k, (∀ y0 y1 y2 y3 y4 y5 y6 y7 y8 y9 y10 y11 y12 y13, LeO (domesdayref10_ahead.j0 k y0 y1 y2 y3 y4 y5 y6 y7 y8 y9 y10 y11 y12 y13) (domesdayref10_ahead.j0 (k + 1) y0 y1 y2 y3 y4 y5 y6 y7 y8 y9 y10 y11 y12 y13))
 | 0 => fun _ _ _ _ _ _ _ _ _ _ _ _ _ _ r h => by simp [domesdayref10_ahead.j0] at h
 | k + 1 => by
  have ih0 := domesdayref10_ahead.mono_l k
  ·intro y0 y1 y2 y3 y4 y5 y6 y7 y8 y9 y10 y11 y12 y13
   unfold domesdayref10_ahead.j0
   repeat' first
   | (with_reducible exact ih0 _ _ _ _ _ _ _ _ _ _ _ _ _ _)
   | (with_reducible exact domesdayref10_Compare.mono _ _ _ _ _ _ _ _ _ _)
   | (with_reducible exact LeO.refl _)
   | (with_reducible exact LeO.none _)
   | (with_reducible refine LeO.ite ?_ ?_)
   | (with_reducible refine LeO.bind ?_ (fun _ => ?_))
   | exact ih0 _ _ _ _ _ _ _ _ _ _ _ _ _ _
   | exact domesdayref10_Compare.mono _ _ _ _ _ _ _ _ _ _
   | exact LeO.none _
   | refine LeO.ite ?_ ?_
   | refine LeO.bind ?_ (fun _ => ?_)
theorem domesdayref10_ahead.mono : ∀ a0 a1 a2 a3 a4 a5 k, LeO (domesdayref10_ahead.f k a0 a1 a2 a3 a4 a5) (domesdayref10_ahead.f (k + 1) a0 a1 a2 a3 a4 a5) := by
 intro a0 a1 a2 a3 a4 a5 k
 have ih0 := domesdayref10_ahead.mono_l k
 unfold domesdayref10_ahead.f
 repeat' first
   | (with_reducible exact ih0 _ _ _ _ _ _ _ _ _ _ _ _ _ _)
   | (with_reducible exact domesdayref10_Compare.mono _ _ _ _ _ _ _ _ _ _)
   | (with_reducible exact LeO.refl _)
   | (with_reducible exact LeO.none _)
   | (with_reducible refine LeO.ite ?_ ?_)
   | (with_reducible refine LeO.bind ?_ (fun _ => ?_))
   | exact ih0 _ _ _ _ _ _ _ _ _ _ _ _ _ _
   | exact domesdayref10_Compare.mono _ _ _ _ _ _ _ _ _ _
   | exact LeO.none _
   | refine LeO.ite ?_ ?_
   | refine LeO.bind ?_ (fun _ => ?_)
def domesdayref10_ahead.T1 : Bool × List (List Nat × List Nat) := (true, [([], []), ([], []), ([0, 1], [0, 1]), ([2], [2]), ([], []), ([], []), ([4, 5], [4, 5]), ([6], [6]), ([], []), ([], []), ([8, 3, 0, 1, 2, 3, 8, 9], [3, 8]), ([9, 7, 10, 0, 1, 2, 3, 4, 5, 6, 7, 8, 9, 10], [7, 9])])
def domesdayref10_ahead.B1 : List Nat := [0, 0, 3, 7, 0, 0, 48, 112, 0, 0, 783, 2047]
theorem domesdayref10_ahead.tab1 : rtab .any (opsOf Tryd.f30 1) = domesdayref10_ahead.T1 := by kernel_rfl
theorem domesdayref10_ahead.bits1 : waitsOk domesdayref10_ahead.T1.2 domesdayref10_ahead.B1 = true := by kernel_rfl
set_option maxHeartbeats 8000000 in
set_option maxRecDepth 100000 in
theorem domesdayref10_ahead.calls (k : Nat) (a0 : Int) (a1_0 : Bool) (a1_1 : Bool) (A2 : Option Addr) (c2 : Nat) (l2 : List (S23)) (a3 : Int) (a4 : Int) (r : Bool) (w : World) (hr2 : Kd.C k23 w A2 l2.length l2) (hc2 : l2.length ≤ c2) (h : domesdayref10_ahead.f k a0 a1_0 a1_1 l2 a3 a4 = some r) :
  Calls Tryd.prog 30 #[.int .i64 a0, .agg #[.bool a1_0, .bool a1_1], .slice A2 l2.length c2, .int .i64 a3, .int .i64 a4] w fun e w' => e = .returned (.bool r) ∧ Below w.heap.size w w' := by
 have hu36 := Tryd.underlying36
 have hu23 := Tryd.underlying23
 have HR2 := Aside0.mk hr2
 have HC2 := Aside0.mk hc2
 clear hr2 hc2
 have HB := Aside0.mk (Below.refl w.heap.size w)
 have H : (if 0 ≤ a3 then (if a3 < (l2.length : Int) then (if 0 ≤ a4 then (if a4 < (l2.length : Int) then (if a1_1 = true then (domesdayref10_ahead.j0 k a0 a3 a4 (((rd_T23 l2 a3).f3) != ((rd_T23 l2 a4).f3)) a1_0 a1_1 ((rd_T23 l2 a3).f0) ((rd_T23 l2 a3).f1) ((rd_T23 l2 a3).f2) ((rd_T23 l2 a3).f3) ((rd_T23 l2 a4).f0) ((rd_T23 l2 a4).f1) ((rd_T23 l2 a4).f2) ((rd_T23 l2 a4).f3)) else (domesdayref10_ahead.j0 k a0 a3 a4 false a1_0 a1_1 ((rd_T23 l2 a3).f0) ((rd_T23 l2 a3).f1) ((rd_T23 l2 a3).f2) ((rd_T23 l2 a3).f3) ((rd_T23 l2 a4).f0) ((rd_T23 l2 a4).f1) ((rd_T23 l2 a4).f2) ((rd_T23 l2 a4).f3))) else (none)) else (none)) else (none)) else (none)) = some r := h
 clear h
 by_cases c6 : 0 ≤ a3
 ·rw [if_pos c6] at H
  have c6b0 : decide (0 ≤ a3) = true := decide_eq_true c6
  clear c6
  by_cases c7 : a3 < (l2.length : Int)
  ·rw [if_pos c7] at H
   have c7b0 : decide (a3 < (l2.length : Int)) = true := decide_eq_true c7
   clear c7
   by_cases c8 : 0 ≤ a4
   ·rw [if_pos c8] at H
    have c8b0 : decide (0 ≤ a4) = true := decide_eq_true c8
    clear c8
    by_cases c9 : a4 < (l2.length : Int)
    ·rw [if_pos c9] at H
     have c9b0 : decide (a4 < (l2.length : Int)) = true := decide_eq_true c9
     clear c9
     have HC10 := Aside0.mk H
     clear H
     go_enter Tryd.func30, Tryd.ntmps30
     try go_wp2_with (first | ((with_reducible refine gate_dst (N := 6) rfl ?_); refine box_event ?hg (N := 6) ?hd (cs := #[.bool a1_0, .bool a1_1]) (t := 36) ?hr ?_; (case hd => rfl); (case hg => rfl); (case hr => first | (go_simp; done) | (go_simp; rfl)); intro gb174 hg w11 hbox hb; have n0_ := Aside0.mk (below_step (by repeat (first | (with_reducible first | exact HB.out | apply below_alloc | apply pw_below_drewN | apply below_drew1) | exact HB.out)) hb); have n1_ := Aside0.mk (hbox); have n2_ := Aside0.mk ((by rw [hg]; exact (below_size (by repeat (first | (with_reducible first | exact HB.out | apply below_alloc | apply pw_below_drewN | apply below_drew1) | exact HB.out))) : w.heap.size ≤ gb174)); have n3_ := Aside0.mk ((by rw [hg]; exact (below_size (by repeat (first | (with_reducible first | exact HB.out | apply below_alloc | apply pw_below_drewN | apply below_drew1) | exact HB.out))) : w.heap.size ≤ gb174)); clear HB; have HB := n0_; have BK174 := n1_; have GW174 := n2_; have GE174 := n3_; clear n0_ n1_ n2_ n3_; clear hb hbox hg))
     have n0_ := Aside0.mk (blk_drew BK174.out)
     have n1_ := Aside0.mk (below_drew1 HB.out)
     clear BK174
     clear HB
     have BK174 := n0_
     have HB := n1_
     clear n0_ n1_
     have p175 : 0 ≤ (a3 : Int) := of_decide_eq_true (by first | (with_reducible assumption) | assumption)
     have q175 : a3 < (l2.length : Int) := of_decide_eq_true (by first | (with_reducible assumption) | assumption)
     obtain ⟨ad175, e175, hx175_0, hx175_1, hx175_2, hx175_3⟩ := at_T23 HR2.out a3 p175 q175
     have hw175_3 := hx175_3
     have hw175_2 := hx175_2
     have hw175_1 := hx175_1
     have hw175_0 := hx175_0
     cases e175
     replace hx175_0 := (HB.out.cell (World.block_lt_of_cell? w _ hx175_0)).trans hx175_0
     replace hx175_1 := (HB.out.cell (World.block_lt_of_cell? w _ hx175_1)).trans hx175_1
     replace hx175_2 := (HB.out.cell (World.block_lt_of_cell? w _ hx175_2)).trans hx175_2
     replace hx175_3 := (HB.out.cell (World.block_lt_of_cell? w _ hx175_3)).trans hx175_3
     replace p175 := eq_true p175
     replace q175 := eq_true q175
     have p176 : 0 ≤ (a4 : Int) := of_decide_eq_true (by first | (with_reducible assumption) | assumption)
     have q176 : a4 < (l2.length : Int) := of_decide_eq_true (by first | (with_reducible assumption) | assumption)
     obtain ⟨ad176, e176, hx176_0, hx176_1, hx176_2, hx176_3⟩ := at_T23 HR2.out a4 p176 q176
     have hw176_3 := hx176_3
     have hw176_2 := hx176_2
     have hw176_1 := hx176_1
     have hw176_0 := hx176_0
     obtain rfl : ad175 = ad176 := (by injection e176)
     replace hx176_0 := (HB.out.cell (World.block_lt_of_cell? w _ hx176_0)).trans hx176_0
     replace hx176_1 := (HB.out.cell (World.block_lt_of_cell? w _ hx176_1)).trans hx176_1
     replace hx176_2 := (HB.out.cell (World.block_lt_of_cell? w _ hx176_2)).trans hx176_2
     replace hx176_3 := (HB.out.cell (World.block_lt_of_cell? w _ hx176_3)).trans hx176_3
     replace p176 := eq_true p176
     replace q176 := eq_true q176
     refine start_ (n := 12) (S := fun w' => w'.cell? (ad175.add ((a3).toNat * 4)) = some (.string ((rd_T23 l2 a3).f0)) ∧ w'.cell? ⟨(ad175.add ((a3).toNat * 4)).block, (ad175.add ((a3).toNat * 4)).off + 1, none⟩ = some (.int .i64 ((rd_T23 l2 a3).f1)) ∧ w'.cell? ⟨(ad175.add ((a3).toNat * 4)).block, (ad175.add ((a3).toNat * 4)).off + 2, none⟩ = some (.int .i64 ((rd_T23 l2 a3).f2)) ∧ w'.cell? ⟨(ad175.add ((a3).toNat * 4)).block, (ad175.add ((a3).toNat * 4)).off + 3, none⟩ = some (.bool ((rd_T23 l2 a3).f3)) ∧ w'.cell? (ad175.add ((a4).toNat * 4)) = some (.string ((rd_T23 l2 a4).f0)) ∧ w'.cell? ⟨(ad175.add ((a4).toNat * 4)).block, (ad175.add ((a4).toNat * 4)).off + 1, none⟩ = some (.int .i64 ((rd_T23 l2 a4).f1)) ∧ w'.cell? ⟨(ad175.add ((a4).toNat * 4)).block, (ad175.add ((a4).toNat * 4)).off + 2, none⟩ = some (.int .i64 ((rd_T23 l2 a4).f2)) ∧ w'.cell? ⟨(ad175.add ((a4).toNat * 4)).block, (ad175.add ((a4).toNat * 4)).off + 3, none⟩ = some (.bool ((rd_T23 l2 a4).f3))) (ds := []) (bm 12 0x0) (by kernel_rfl) rfl rfl ⟨((HB.out.cell (World.block_lt_of_cell? w _ hw175_0)).trans hw175_0), ((HB.out.cell (World.block_lt_of_cell? w _ hw175_1)).trans hw175_1), ((HB.out.cell (World.block_lt_of_cell? w _ hw175_2)).trans hw175_2), ((HB.out.cell (World.block_lt_of_cell? w _ hw175_3)).trans hw175_3), ((HB.out.cell (World.block_lt_of_cell? w _ hw176_0)).trans hw176_0), ((HB.out.cell (World.block_lt_of_cell? w _ hw176_1)).trans hw176_1), ((HB.out.cell (World.block_lt_of_cell? w _ hw176_2)).trans hw176_2), ((HB.out.cell (World.block_lt_of_cell? w _ hw176_3)).trans hw176_3)⟩ (fun hHeld => ?_); refine with_tabW domesdayref10_ahead.tab1 domesdayref10_ahead.bits1 (fun HT_ HW_ => ?_)
     generalize w11.drew = w12 at BK174 HB hx175_0 hx175_1 hx175_2 hx175_3 hx176_0 hx176_1 hx176_2 hx176_3 hHeld ⊢
     refine pure_ (i := 0) (N := some 14) (v := ?_) (a' := ?_) (bm 12 0x1) rfl rfl (any_of HT_.out (by kernel_rfl)) (fun _ _ _ h => h) (Or.inl ⟨by rfl, ?_⟩) ?_ ?_
     rotate_left
     ·intro w'
      go_simp
      with_reducible rfl
     rotate_left
     ·simp only [Act.put, List.setIfInBounds_toArray, List.set_cons_zero, List.set_cons_succ, i64_w, i32_w]
      rfl
     refine pure_ (i := 1) (N := some 15) (v := ?_) (a' := ?_) (bm 12 0x3) rfl rfl (any_of HT_.out (by kernel_rfl)) (fun _ _ _ h => h) (Or.inl ⟨by rfl, ?_⟩) ?_ ?_
     rotate_left
     ·intro w'
      go_simp
      with_reducible rfl
     rotate_left
     ·simp only [Act.put, List.setIfInBounds_toArray, List.set_cons_zero, List.set_cons_succ, i64_w, i32_w]
      rfl
     refine pure_ (i := 2) (N := some 16) (v := ?_) (a' := ?_) (bm 12 0x7) rfl rfl (any_of HT_.out (by kernel_rfl)) (fun _ _ _ h => h) (Or.inl ⟨by rfl, ?_⟩) ?_ ?_
     rotate_left
     ·intro w'
      go_simp
      with_reducible rfl
     rotate_left
     ·simp only [Act.put, List.setIfInBounds_toArray, List.set_cons_zero, List.set_cons_succ, i64_w, i32_w]
      rfl
     refine pure_ (i := 4) (N := some 18) (v := ?_) (a' := ?_) (bm 12 0x17) rfl rfl (any_of HT_.out (by kernel_rfl)) (fun _ _ _ h => h) (Or.inl ⟨by rfl, ?_⟩) ?_ ?_
     rotate_left
     ·intro w'
      go_simp
      with_reducible rfl
     rotate_left
     ·simp only [Act.put, List.setIfInBounds_toArray, List.set_cons_zero, List.set_cons_succ, i64_w, i32_w]
      rfl
     refine pure_ (i := 5) (N := some 19) (v := ?_) (a' := ?_) (bm 12 0x37) rfl rfl (any_of HT_.out (by kernel_rfl)) (fun _ _ _ h => h) (Or.inl ⟨by rfl, ?_⟩) ?_ ?_
     rotate_left
     ·intro w'
      go_simp
      with_reducible rfl
     rotate_left
     ·simp only [Act.put, List.setIfInBounds_toArray, List.set_cons_zero, List.set_cons_succ, i64_w, i32_w]
      rfl
     refine pure_ (i := 6) (N := some 20) (v := ?_) (a' := ?_) (bm 12 0x77) rfl rfl (any_of HT_.out (by kernel_rfl)) (fun _ _ _ h => h) (Or.inl ⟨by rfl, ?_⟩) ?_ ?_
     rotate_left
     ·intro w'
      go_simp
      with_reducible rfl
     rotate_left
     ·simp only [Act.put, List.setIfInBounds_toArray, List.set_cons_zero, List.set_cons_succ, i64_w, i32_w]
      rfl
     refine take_ (i := 3) (N := some 17) (v := ?_) (a' := ?_) (bm 12 0x7f) rfl rfl (take_ofW HT_.out HW_.out (by kernel_rfl)) (fun _ _ _ h => h) (Or.inl ⟨by rfl, ?_⟩) hHeld ?_ ?_
     rotate_left
     ·rintro w' ⟨s0, s1, s2, s3, s4, s5, s6, s7⟩
      go_simp
      with_reducible rfl
     rotate_left
     ·simp only [Act.put, List.setIfInBounds_toArray, List.set_cons_zero, List.set_cons_succ, i64_w, i32_w]
      rfl
     refine take_ (i := 7) (N := some 21) (v := ?_) (a' := ?_) (bm 12 0xff) rfl rfl (take_ofW HT_.out HW_.out (by kernel_rfl)) (fun _ _ _ h => h) (Or.inl ⟨by rfl, ?_⟩) hHeld ?_ ?_
     rotate_left
     ·rintro w' ⟨s0, s1, s2, s3, s4, s5, s6, s7⟩
      go_simp
      with_reducible rfl
     rotate_left
     ·simp only [Act.put, List.setIfInBounds_toArray, List.set_cons_zero, List.set_cons_succ, i64_w, i32_w]
      rfl
     refine join_ (σ := Nat × Nat) 2 (bm 12 0x3ff) (fun s_ => [(11, .pointer (some ⟨s_.1, 0, none⟩)), (12, .pointer (some ⟨s_.2, 0, none⟩))]) (fun s_ w' => (w'.cell? (ad175.add ((a3).toNat * 4)) = some (.string ((rd_T23 l2 a3).f0)) ∧ w'.cell? ⟨(ad175.add ((a3).toNat * 4)).block, (ad175.add ((a3).toNat * 4)).off + 1, none⟩ = some (.int .i64 ((rd_T23 l2 a3).f1)) ∧ w'.cell? ⟨(ad175.add ((a3).toNat * 4)).block, (ad175.add ((a3).toNat * 4)).off + 2, none⟩ = some (.int .i64 ((rd_T23 l2 a3).f2)) ∧ w'.cell? ⟨(ad175.add ((a3).toNat * 4)).block, (ad175.add ((a3).toNat * 4)).off + 3, none⟩ = some (.bool ((rd_T23 l2 a3).f3)) ∧ w'.cell? (ad175.add ((a4).toNat * 4)) = some (.string ((rd_T23 l2 a4).f0)) ∧ w'.cell? ⟨(ad175.add ((a4).toNat * 4)).block, (ad175.add ((a4).toNat * 4)).off + 1, none⟩ = some (.int .i64 ((rd_T23 l2 a4).f1)) ∧ w'.cell? ⟨(ad175.add ((a4).toNat * 4)).block, (ad175.add ((a4).toNat * 4)).off + 2, none⟩ = some (.int .i64 ((rd_T23 l2 a4).f2)) ∧ w'.cell? ⟨(ad175.add ((a4).toNat * 4)).block, (ad175.add ((a4).toNat * 4)).off + 3, none⟩ = some (.bool ((rd_T23 l2 a4).f3))) ∧ (w'.heap[gb174]? = some (.cells #[.bool a1_0, .bool a1_1] 36 (0, 0))) ∧ (w'.heap[s_.1]? = some (.cells #[.string (⟨#[]⟩ : ByteArray), .int .i64 0, .int .i64 0, .bool false] 23 (0, 0))) ∧ (w'.heap[s_.2]? = some (.cells #[.string (⟨#[]⟩ : ByteArray), .int .i64 0, .int .i64 0, .bool false] 23 (0, 0))) ∧ (w.heap.size ≤ s_.1) ∧ (w.heap.size ≤ s_.1) ∧ (gb174 ≠ s_.1) ∧ (s_.1 ≠ gb174) ∧ (s_.2 ≠ s_.1) ∧ (s_.1 ≠ s_.2) ∧ (w.heap.size ≤ s_.2) ∧ (w.heap.size ≤ s_.2) ∧ (gb174 ≠ s_.2) ∧ (s_.2 ≠ gb174) ∧ (Below w.heap.size w w')) ?_ ?_
     rotate_left
     ·intro hCont
      refine two_ (i := 8) (j := 9) (Ni := some 11) (Nj := some 12) (bm 12 0x1ff) (bm 12 0x2ff) rfl rfl rfl rfl (two_of HT_.out (by kernel_rfl)) (by decide) (by decide) (fun K hK => ?_) (fun K hK => ?_)
      ·skip
       refine box_step ?hg (N := 11) ?hd (cs := #[.string (⟨#[]⟩ : ByteArray), .int .i64 0, .int .i64 0, .bool false]) (t := 23) ?hr ?_; (case hd => rfl); (case hg => rfl); (case hr => first | (go_simp; done) | (go_simp; rfl))
       intro gb177 hg w13 hbox hb
       have n0_ := Aside0.mk (blk_below (g := gb174) (o := .cells #[.bool a1_0, .bool a1_1] 36 (0, 0)) (by (with_reducible repeat (first | refine blk_drewN ?_ _ | refine blk_drew ?_ | refine blk_alloc ?_ _)); exact BK174.out) hb)
       have n1_ := Aside0.mk (below_step (by repeat (first | (with_reducible first | exact HB.out | apply below_alloc | apply pw_below_drewN | apply below_drew1 | refine below_set ?_ GE174.out) | exact HB.out)) hb)
       have n2_ := Aside0.mk (hbox)
       have n3_ := Aside0.mk ((by rw [hg]; exact (below_size (by repeat (first | (with_reducible first | exact HB.out | apply below_alloc | apply pw_below_drewN | apply below_drew1 | refine below_set ?_ GE174.out) | exact HB.out))) : w.heap.size ≤ gb177))
       have n4_ := Aside0.mk ((by rw [hg]; exact (below_size (by repeat (first | (with_reducible first | exact HB.out | apply below_alloc | apply pw_below_drewN | apply below_drew1 | refine below_set ?_ GE174.out) | exact HB.out))) : w.heap.size ≤ gb177))
       have n5_ := Aside0.mk ((by rw [hg]; exact Nat.ne_of_lt (blk_lt (g := gb174) (o := .cells #[.bool a1_0, .bool a1_1] 36 (0, 0)) (by (with_reducible repeat (first | refine blk_drewN ?_ _ | refine blk_drew ?_ | refine blk_alloc ?_ _)); exact BK174.out)) : gb174 ≠ gb177))
       have n6_ := Aside0.mk ((by rw [hg]; exact Nat.ne_of_gt (blk_lt (g := gb174) (o := .cells #[.bool a1_0, .bool a1_1] 36 (0, 0)) (by (with_reducible repeat (first | refine blk_drewN ?_ _ | refine blk_drew ?_ | refine blk_alloc ?_ _)); exact BK174.out)) : gb177 ≠ gb174))
       clear BK174
       clear HB
       have BK174 := n0_
       have HB := n1_
       have BK177 := n2_
       have GW177 := n3_
       have GE177 := n4_
       have NB174_177 := n5_
       have NB177_174 := n6_
       clear n0_ n1_ n2_ n3_ n4_ n5_ n6_
       clear hb hbox hg
       refine hK.out _ _ ⟨((HB.out.cell (World.block_lt_of_cell? w _ hw175_0)).trans hw175_0), ((HB.out.cell (World.block_lt_of_cell? w _ hw175_1)).trans hw175_1), ((HB.out.cell (World.block_lt_of_cell? w _ hw175_2)).trans hw175_2), ((HB.out.cell (World.block_lt_of_cell? w _ hw175_3)).trans hw175_3), ((HB.out.cell (World.block_lt_of_cell? w _ hw176_0)).trans hw176_0), ((HB.out.cell (World.block_lt_of_cell? w _ hw176_1)).trans hw176_1), ((HB.out.cell (World.block_lt_of_cell? w _ hw176_2)).trans hw176_2), ((HB.out.cell (World.block_lt_of_cell? w _ hw176_3)).trans hw176_3)⟩ (fun hHeld => ?_)
       clear hK K
       refine norm_ (a' := ?_) ?_ ?_
       rotate_left
       ·show Act.put _ (some 11) _ = _
        simp only [Act.put, List.setIfInBounds_toArray, List.set_cons_zero, List.set_cons_succ, i64_w, i32_w]
        rfl
       refine one_ (i := 9) (N := some 12) (bm 12 0x3ff) rfl rfl (one_of HT_.out (by kernel_rfl)) (by decide) (fun K hK => ?_)
       refine box_step ?hg (N := 12) ?hd (cs := #[.string (⟨#[]⟩ : ByteArray), .int .i64 0, .int .i64 0, .bool false]) (t := 23) ?hr ?_; (case hd => rfl); (case hg => rfl); (case hr => first | (go_simp; done) | (go_simp; rfl))
       intro gb178 hg w14 hbox hb
       have n0_ := Aside0.mk (blk_below (g := gb174) (o := .cells #[.bool a1_0, .bool a1_1] 36 (0, 0)) (by (with_reducible repeat (first | refine blk_drewN ?_ _ | refine blk_drew ?_ | refine blk_alloc ?_ _)); exact BK174.out) hb)
       have n1_ := Aside0.mk (blk_below (g := gb177) (o := .cells #[.string (⟨#[]⟩ : ByteArray), .int .i64 0, .int .i64 0, .bool false] 23 (0, 0)) (by (with_reducible repeat (first | refine blk_drewN ?_ _ | refine blk_drew ?_ | refine blk_alloc ?_ _)); exact BK177.out) hb)
       have n2_ := Aside0.mk (below_step (by repeat (first | (with_reducible first | exact HB.out | apply below_alloc | apply pw_below_drewN | apply below_drew1 | refine below_set ?_ GE174.out | refine below_set ?_ GE177.out) | exact HB.out)) hb)
       have n3_ := Aside0.mk (hbox)
       have n4_ := Aside0.mk ((by rw [hg]; exact (below_size (by repeat (first | (with_reducible first | exact HB.out | apply below_alloc | apply pw_below_drewN | apply below_drew1 | refine below_set ?_ GE174.out | refine below_set ?_ GE177.out) | exact HB.out))) : w.heap.size ≤ gb178))
       have n5_ := Aside0.mk ((by rw [hg]; exact (below_size (by repeat (first | (with_reducible first | exact HB.out | apply below_alloc | apply pw_below_drewN | apply below_drew1 | refine below_set ?_ GE174.out | refine below_set ?_ GE177.out) | exact HB.out))) : w.heap.size ≤ gb178))
       have n6_ := Aside0.mk ((by rw [hg]; exact Nat.ne_of_lt (blk_lt (g := gb174) (o := .cells #[.bool a1_0, .bool a1_1] 36 (0, 0)) (by (with_reducible repeat (first | refine blk_drewN ?_ _ | refine blk_drew ?_ | refine blk_alloc ?_ _)); exact BK174.out)) : gb174 ≠ gb178))
       have n7_ := Aside0.mk ((by rw [hg]; exact Nat.ne_of_gt (blk_lt (g := gb174) (o := .cells #[.bool a1_0, .bool a1_1] 36 (0, 0)) (by (with_reducible repeat (first | refine blk_drewN ?_ _ | refine blk_drew ?_ | refine blk_alloc ?_ _)); exact BK174.out)) : gb178 ≠ gb174))
       have n8_ := Aside0.mk ((by rw [hg]; exact Nat.ne_of_lt (blk_lt (g := gb177) (o := .cells #[.string (⟨#[]⟩ : ByteArray), .int .i64 0, .int .i64 0, .bool false] 23 (0, 0)) (by (with_reducible repeat (first | refine blk_drewN ?_ _ | refine blk_drew ?_ | refine blk_alloc ?_ _)); exact BK177.out)) : gb177 ≠ gb178))
       have n9_ := Aside0.mk ((by rw [hg]; exact Nat.ne_of_gt (blk_lt (g := gb177) (o := .cells #[.string (⟨#[]⟩ : ByteArray), .int .i64 0, .int .i64 0, .bool false] 23 (0, 0)) (by (with_reducible repeat (first | refine blk_drewN ?_ _ | refine blk_drew ?_ | refine blk_alloc ?_ _)); exact BK177.out)) : gb178 ≠ gb177))
       clear BK174
       clear BK177
       clear HB
       have BK174 := n0_
       have BK177 := n1_
       have HB := n2_
       have BK178 := n3_
       have GW178 := n4_
       have GE178 := n5_
       have NB174_178 := n6_
       have NB178_174 := n7_
       have NB177_178 := n8_
       have NB178_177 := n9_
       clear n0_ n1_ n2_ n3_ n4_ n5_ n6_ n7_ n8_ n9_
       clear hb hbox hg
       refine hK.out _ _ ⟨((HB.out.cell (World.block_lt_of_cell? w _ hw175_0)).trans hw175_0), ((HB.out.cell (World.block_lt_of_cell? w _ hw175_1)).trans hw175_1), ((HB.out.cell (World.block_lt_of_cell? w _ hw175_2)).trans hw175_2), ((HB.out.cell (World.block_lt_of_cell? w _ hw175_3)).trans hw175_3), ((HB.out.cell (World.block_lt_of_cell? w _ hw176_0)).trans hw176_0), ((HB.out.cell (World.block_lt_of_cell? w _ hw176_1)).trans hw176_1), ((HB.out.cell (World.block_lt_of_cell? w _ hw176_2)).trans hw176_2), ((HB.out.cell (World.block_lt_of_cell? w _ hw176_3)).trans hw176_3)⟩ (fun hHeld => ?_)
       clear hK K
       refine norm_ (a' := ?_) ?_ ?_
       rotate_left
       ·show Act.put _ (some 12) _ = _
        simp only [Act.put, List.setIfInBounds_toArray, List.set_cons_zero, List.set_cons_succ, i64_w, i32_w]
        rfl
       exact norm_ (by simp only [putAll, Act.put, List.setIfInBounds_toArray, List.set_cons_zero, List.set_cons_succ]) (hCont (gb177, gb178) _ ⟨hHeld, (by (with_reducible repeat (first | refine blk_drewN ?_ _ | refine blk_drew ?_ | refine blk_alloc ?_ _)); exact BK174.out), (by (with_reducible repeat (first | refine blk_drewN ?_ _ | refine blk_drew ?_ | refine blk_alloc ?_ _)); exact BK177.out), (by (with_reducible repeat (first | refine blk_drewN ?_ _ | refine blk_drew ?_ | refine blk_alloc ?_ _)); exact BK178.out), GW177.out, GE177.out, NB174_177.out, NB177_174.out, NB178_177.out, NB177_178.out, GW178.out, GE178.out, NB174_178.out, NB178_174.out, (by repeat (first | (with_reducible first | exact HB.out | apply below_alloc | apply pw_below_drewN | apply below_drew1 | refine below_set ?_ GE174.out | refine below_set ?_ GE177.out | refine below_set ?_ GE178.out) | exact HB.out))⟩)
      ·skip
       refine box_step ?hg (N := 12) ?hd (cs := #[.string (⟨#[]⟩ : ByteArray), .int .i64 0, .int .i64 0, .bool false]) (t := 23) ?hr ?_; (case hd => rfl); (case hg => rfl); (case hr => first | (go_simp; done) | (go_simp; rfl))
       intro gb178 hg w13 hbox hb
       have n0_ := Aside0.mk (blk_below (g := gb174) (o := .cells #[.bool a1_0, .bool a1_1] 36 (0, 0)) (by (with_reducible repeat (first | refine blk_drewN ?_ _ | refine blk_drew ?_ | refine blk_alloc ?_ _)); exact BK174.out) hb)
       have n1_ := Aside0.mk (below_step (by repeat (first | (with_reducible first | exact HB.out | apply below_alloc | apply pw_below_drewN | apply below_drew1 | refine below_set ?_ GE174.out) | exact HB.out)) hb)
       have n2_ := Aside0.mk (hbox)
       have n3_ := Aside0.mk ((by rw [hg]; exact (below_size (by repeat (first | (with_reducible first | exact HB.out | apply below_alloc | apply pw_below_drewN | apply below_drew1 | refine below_set ?_ GE174.out) | exact HB.out))) : w.heap.size ≤ gb178))
       have n4_ := Aside0.mk ((by rw [hg]; exact (below_size (by repeat (first | (with_reducible first | exact HB.out | apply below_alloc | apply pw_below_drewN | apply below_drew1 | refine below_set ?_ GE174.out) | exact HB.out))) : w.heap.size ≤ gb178))
       have n5_ := Aside0.mk ((by rw [hg]; exact Nat.ne_of_lt (blk_lt (g := gb174) (o := .cells #[.bool a1_0, .bool a1_1] 36 (0, 0)) (by (with_reducible repeat (first | refine blk_drewN ?_ _ | refine blk_drew ?_ | refine blk_alloc ?_ _)); exact BK174.out)) : gb174 ≠ gb178))
       have n6_ := Aside0.mk ((by rw [hg]; exact Nat.ne_of_gt (blk_lt (g := gb174) (o := .cells #[.bool a1_0, .bool a1_1] 36 (0, 0)) (by (with_reducible repeat (first | refine blk_drewN ?_ _ | refine blk_drew ?_ | refine blk_alloc ?_ _)); exact BK174.out)) : gb178 ≠ gb174))
       clear BK174
       clear HB
       have BK174 := n0_
       have HB := n1_
       have BK178 := n2_
       have GW178 := n3_
       have GE178 := n4_
       have NB174_178 := n5_
       have NB178_174 := n6_
       clear n0_ n1_ n2_ n3_ n4_ n5_ n6_
       clear hb hbox hg
       refine hK.out _ _ ⟨((HB.out.cell (World.block_lt_of_cell? w _ hw175_0)).trans hw175_0), ((HB.out.cell (World.block_lt_of_cell? w _ hw175_1)).trans hw175_1), ((HB.out.cell (World.block_lt_of_cell? w _ hw175_2)).trans hw175_2), ((HB.out.cell (World.block_lt_of_cell? w _ hw175_3)).trans hw175_3), ((HB.out.cell (World.block_lt_of_cell? w _ hw176_0)).trans hw176_0), ((HB.out.cell (World.block_lt_of_cell? w _ hw176_1)).trans hw176_1), ((HB.out.cell (World.block_lt_of_cell? w _ hw176_2)).trans hw176_2), ((HB.out.cell (World.block_lt_of_cell? w _ hw176_3)).trans hw176_3)⟩ (fun hHeld => ?_)
       clear hK K
       refine norm_ (a' := ?_) ?_ ?_
       rotate_left
       ·show Act.put _ (some 12) _ = _
        simp only [Act.put, List.setIfInBounds_toArray, List.set_cons_zero, List.set_cons_succ, i64_w, i32_w]
        rfl
       refine one_ (i := 8) (N := some 11) (bm 12 0x3ff) rfl rfl (one_of HT_.out (by kernel_rfl)) (by decide) (fun K hK => ?_)
       refine box_step ?hg (N := 11) ?hd (cs := #[.string (⟨#[]⟩ : ByteArray), .int .i64 0, .int .i64 0, .bool false]) (t := 23) ?hr ?_; (case hd => rfl); (case hg => rfl); (case hr => first | (go_simp; done) | (go_simp; rfl))
       intro gb177 hg w14 hbox hb
       have n0_ := Aside0.mk (blk_below (g := gb174) (o := .cells #[.bool a1_0, .bool a1_1] 36 (0, 0)) (by (with_reducible repeat (first | refine blk_drewN ?_ _ | refine blk_drew ?_ | refine blk_alloc ?_ _)); exact BK174.out) hb)
       have n1_ := Aside0.mk (blk_below (g := gb178) (o := .cells #[.string (⟨#[]⟩ : ByteArray), .int .i64 0, .int .i64 0, .bool false] 23 (0, 0)) (by (with_reducible repeat (first | refine blk_drewN ?_ _ | refine blk_drew ?_ | refine blk_alloc ?_ _)); exact BK178.out) hb)
       have n2_ := Aside0.mk (below_step (by repeat (first | (with_reducible first | exact HB.out | apply below_alloc | apply pw_below_drewN | apply below_drew1 | refine below_set ?_ GE174.out | refine below_set ?_ GE178.out) | exact HB.out)) hb)
       have n3_ := Aside0.mk (hbox)
       have n4_ := Aside0.mk ((by rw [hg]; exact (below_size (by repeat (first | (with_reducible first | exact HB.out | apply below_alloc | apply pw_below_drewN | apply below_drew1 | refine below_set ?_ GE174.out | refine below_set ?_ GE178.out) | exact HB.out))) : w.heap.size ≤ gb177))
       have n5_ := Aside0.mk ((by rw [hg]; exact (below_size (by repeat (first | (with_reducible first | exact HB.out | apply below_alloc | apply pw_below_drewN | apply below_drew1 | refine below_set ?_ GE174.out | refine below_set ?_ GE178.out) | exact HB.out))) : w.heap.size ≤ gb177))
       have n6_ := Aside0.mk ((by rw [hg]; exact Nat.ne_of_lt (blk_lt (g := gb174) (o := .cells #[.bool a1_0, .bool a1_1] 36 (0, 0)) (by (with_reducible repeat (first | refine blk_drewN ?_ _ | refine blk_drew ?_ | refine blk_alloc ?_ _)); exact BK174.out)) : gb174 ≠ gb177))
       have n7_ := Aside0.mk ((by rw [hg]; exact Nat.ne_of_gt (blk_lt (g := gb174) (o := .cells #[.bool a1_0, .bool a1_1] 36 (0, 0)) (by (with_reducible repeat (first | refine blk_drewN ?_ _ | refine blk_drew ?_ | refine blk_alloc ?_ _)); exact BK174.out)) : gb177 ≠ gb174))
       have n8_ := Aside0.mk ((by rw [hg]; exact Nat.ne_of_lt (blk_lt (g := gb178) (o := .cells #[.string (⟨#[]⟩ : ByteArray), .int .i64 0, .int .i64 0, .bool false] 23 (0, 0)) (by (with_reducible repeat (first | refine blk_drewN ?_ _ | refine blk_drew ?_ | refine blk_alloc ?_ _)); exact BK178.out)) : gb178 ≠ gb177))
       have n9_ := Aside0.mk ((by rw [hg]; exact Nat.ne_of_gt (blk_lt (g := gb178) (o := .cells #[.string (⟨#[]⟩ : ByteArray), .int .i64 0, .int .i64 0, .bool false] 23 (0, 0)) (by (with_reducible repeat (first | refine blk_drewN ?_ _ | refine blk_drew ?_ | refine blk_alloc ?_ _)); exact BK178.out)) : gb177 ≠ gb178))
       clear BK174
       clear BK178
       clear HB
       have BK174 := n0_
       have BK178 := n1_
       have HB := n2_
       have BK177 := n3_
       have GW177 := n4_
       have GE177 := n5_
       have NB174_177 := n6_
       have NB177_174 := n7_
       have NB178_177 := n8_
       have NB177_178 := n9_
       clear n0_ n1_ n2_ n3_ n4_ n5_ n6_ n7_ n8_ n9_
       clear hb hbox hg
       refine hK.out _ _ ⟨((HB.out.cell (World.block_lt_of_cell? w _ hw175_0)).trans hw175_0), ((HB.out.cell (World.block_lt_of_cell? w _ hw175_1)).trans hw175_1), ((HB.out.cell (World.block_lt_of_cell? w _ hw175_2)).trans hw175_2), ((HB.out.cell (World.block_lt_of_cell? w _ hw175_3)).trans hw175_3), ((HB.out.cell (World.block_lt_of_cell? w _ hw176_0)).trans hw176_0), ((HB.out.cell (World.block_lt_of_cell? w _ hw176_1)).trans hw176_1), ((HB.out.cell (World.block_lt_of_cell? w _ hw176_2)).trans hw176_2), ((HB.out.cell (World.block_lt_of_cell? w _ hw176_3)).trans hw176_3)⟩ (fun hHeld => ?_)
       clear hK K
       refine norm_ (a' := ?_) ?_ ?_
       rotate_left
       ·show Act.put _ (some 11) _ = _
        simp only [Act.put, List.setIfInBounds_toArray, List.set_cons_zero, List.set_cons_succ, i64_w, i32_w]
        rfl
       exact norm_ (by simp only [putAll, Act.put, List.setIfInBounds_toArray, List.set_cons_zero, List.set_cons_succ]) (hCont (gb177, gb178) _ ⟨hHeld, (by (with_reducible repeat (first | refine blk_drewN ?_ _ | refine blk_drew ?_ | refine blk_alloc ?_ _)); exact BK174.out), (by (with_reducible repeat (first | refine blk_drewN ?_ _ | refine blk_drew ?_ | refine blk_alloc ?_ _)); exact BK177.out), (by (with_reducible repeat (first | refine blk_drewN ?_ _ | refine blk_drew ?_ | refine blk_alloc ?_ _)); exact BK178.out), GW177.out, GE177.out, NB174_177.out, NB177_174.out, NB178_177.out, NB177_178.out, GW178.out, GE178.out, NB174_178.out, NB178_174.out, (by repeat (first | (with_reducible first | exact HB.out | apply below_alloc | apply pw_below_drewN | apply below_drew1 | refine below_set ?_ GE174.out | refine below_set ?_ GE178.out | refine below_set ?_ GE177.out) | exact HB.out))⟩)
     rintro ⟨gb177, gb178⟩ w15 ⟨hS_, h0_, h1_, h2_, h3_, h4_, h5_, h6_, h7_, h8_, h9_, h10_, h11_, h12_, h13_⟩
     have n0_ : Aside0 (w15.heap[gb174]? = some (.cells #[.bool a1_0, .bool a1_1] 36 (0, 0))) := ⟨h0_⟩
     have n1_ : Aside0 (w15.heap[gb177]? = some (.cells #[.string (⟨#[]⟩ : ByteArray), .int .i64 0, .int .i64 0, .bool false] 23 (0, 0))) := ⟨h1_⟩
     have n2_ : Aside0 (w15.heap[gb178]? = some (.cells #[.string (⟨#[]⟩ : ByteArray), .int .i64 0, .int .i64 0, .bool false] 23 (0, 0))) := ⟨h2_⟩
     have n3_ : Aside0 (w.heap.size ≤ gb177) := ⟨h3_⟩
     have n4_ : Aside0 (w.heap.size ≤ gb177) := ⟨h4_⟩
     have n5_ : Aside0 (gb174 ≠ gb177) := ⟨h5_⟩
     have n6_ : Aside0 (gb177 ≠ gb174) := ⟨h6_⟩
     have n7_ : Aside0 (gb178 ≠ gb177) := ⟨h7_⟩
     have n8_ : Aside0 (gb177 ≠ gb178) := ⟨h8_⟩
     have n9_ : Aside0 (w.heap.size ≤ gb178) := ⟨h9_⟩
     have n10_ : Aside0 (w.heap.size ≤ gb178) := ⟨h10_⟩
     have n11_ : Aside0 (gb174 ≠ gb178) := ⟨h11_⟩
     have n12_ : Aside0 (gb178 ≠ gb174) := ⟨h12_⟩
     have n13_ : Aside0 (Below w.heap.size w w15) := ⟨h13_⟩
     clear BK174
     clear HB
     clear h0_ h1_ h2_ h3_ h4_ h5_ h6_ h7_ h8_ h9_ h10_ h11_ h12_ h13_
     have BK174 := n0_
     have BK177 := n1_
     have BK178 := n2_
     have GW177 := n3_
     have GE177 := n4_
     have NB174_177 := n5_
     have NB177_174 := n6_
     have NB178_177 := n7_
     have NB177_178 := n8_
     have GW178 := n9_
     have GE178 := n10_
     have NB174_178 := n11_
     have NB178_174 := n12_
     have HB := n13_
     clear n0_ n1_ n2_ n3_ n4_ n5_ n6_ n7_ n8_ n9_ n10_ n11_ n12_ n13_
     have hHeld : w15.cell? (ad175.add ((a3).toNat * 4)) = some (.string ((rd_T23 l2 a3).f0)) ∧ w15.cell? ⟨(ad175.add ((a3).toNat * 4)).block, (ad175.add ((a3).toNat * 4)).off + 1, none⟩ = some (.int .i64 ((rd_T23 l2 a3).f1)) ∧ w15.cell? ⟨(ad175.add ((a3).toNat * 4)).block, (ad175.add ((a3).toNat * 4)).off + 2, none⟩ = some (.int .i64 ((rd_T23 l2 a3).f2)) ∧ w15.cell? ⟨(ad175.add ((a3).toNat * 4)).block, (ad175.add ((a3).toNat * 4)).off + 3, none⟩ = some (.bool ((rd_T23 l2 a3).f3)) ∧ w15.cell? (ad175.add ((a4).toNat * 4)) = some (.string ((rd_T23 l2 a4).f0)) ∧ w15.cell? ⟨(ad175.add ((a4).toNat * 4)).block, (ad175.add ((a4).toNat * 4)).off + 1, none⟩ = some (.int .i64 ((rd_T23 l2 a4).f1)) ∧ w15.cell? ⟨(ad175.add ((a4).toNat * 4)).block, (ad175.add ((a4).toNat * 4)).off + 2, none⟩ = some (.int .i64 ((rd_T23 l2 a4).f2)) ∧ w15.cell? ⟨(ad175.add ((a4).toNat * 4)).block, (ad175.add ((a4).toNat * 4)).off + 3, none⟩ = some (.bool ((rd_T23 l2 a4).f3)) := hS_
     refine norm_ (a' := ?_) ?_ ?_
     rotate_left
     ·simp only [putAll, Act.put, List.setIfInBounds_toArray, List.set_cons_zero, List.set_cons_succ]
      rfl
     refine one_ (i := 10) (N := none) (bm 12 0x7ff) rfl rfl (one_of HT_.out (by kernel_rfl)) (by decide) (fun K hK => ?_)
     have hs16 : w15.cell? ⟨gb177, 0, none⟩ = some (.string (⟨#[]⟩ : ByteArray)) := (blk_cell BK177.out 0).trans rfl
     have hfs16 := blk_frozen BK177.out 0; have hns16_0 := NB174_177.out; have hns16_2 := NB178_177.out
     have hms16_0 := NB177_174.out
     have hms16_2 := NB177_178.out
     have hs17 : w15.cell? ⟨gb177, 1, none⟩ = some (.int .i64 0) := (blk_cell BK177.out 1).trans rfl
     have hfs17 := blk_frozen BK177.out 1; have hns17_0 := NB174_177.out; have hns17_2 := NB178_177.out
     have hms17_0 := NB177_174.out
     have hms17_2 := NB177_178.out
     have hs18 : w15.cell? ⟨gb177, 2, none⟩ = some (.int .i64 0) := (blk_cell BK177.out 2).trans rfl
     have hfs18 := blk_frozen BK177.out 2; have hns18_0 := NB174_177.out; have hns18_2 := NB178_177.out
     have hms18_0 := NB177_174.out
     have hms18_2 := NB177_178.out
     have hs19 : w15.cell? ⟨gb177, 3, none⟩ = some (.bool false) := (blk_cell BK177.out 3).trans rfl
     have hfs19 := blk_frozen BK177.out 3; have hns19_0 := NB174_177.out; have hns19_2 := NB178_177.out
     have hms19_0 := NB177_174.out
     have hms19_2 := NB177_178.out
     refine skip_ (w1 := ?_) (by rfl) rfl ?_ ?_
     rotate_left
     ·go_simp
      rfl
     refine hK.out _ _ ⟨((cell_far (p := ⟨gb177, _, none⟩) (by first | exact Nat.ne_of_lt (Nat.lt_of_lt_of_le (by have := World.block_lt_of_cell? _ _ hw175_0; first | rwa [add_block] at this | exact this) GW177.out) | (rw [add_block]; exact Nat.ne_of_lt (Nat.lt_of_lt_of_le (by have := World.block_lt_of_cell? _ _ hw175_0; first | rwa [add_block] at this | exact this) GW177.out)) | (show (Addr.add _ _).block ≠ _; rw [add_block]; exact Nat.ne_of_lt (Nat.lt_of_lt_of_le (by have := World.block_lt_of_cell? _ _ hw175_0; first | rwa [add_block] at this | exact this) GW177.out)) | (dsimp only; exact Nat.ne_of_lt (Nat.lt_of_lt_of_le (by have := World.block_lt_of_cell? _ _ hw175_0; first | rwa [add_block] at this | exact this) GW177.out))) _).trans (((cell_far (p := ⟨gb177, _, none⟩) (by first | exact Nat.ne_of_lt (Nat.lt_of_lt_of_le (by have := World.block_lt_of_cell? _ _ hw175_0; first | rwa [add_block] at this | exact this) GW177.out) | (rw [add_block]; exact Nat.ne_of_lt (Nat.lt_of_lt_of_le (by have := World.block_lt_of_cell? _ _ hw175_0; first | rwa [add_block] at this | exact this) GW177.out)) | (show (Addr.add _ _).block ≠ _; rw [add_block]; exact Nat.ne_of_lt (Nat.lt_of_lt_of_le (by have := World.block_lt_of_cell? _ _ hw175_0; first | rwa [add_block] at this | exact this) GW177.out)) | (dsimp only; exact Nat.ne_of_lt (Nat.lt_of_lt_of_le (by have := World.block_lt_of_cell? _ _ hw175_0; first | rwa [add_block] at this | exact this) GW177.out))) _).trans (((cell_far (p := ⟨gb177, _, none⟩) (by first | exact Nat.ne_of_lt (Nat.lt_of_lt_of_le (by have := World.block_lt_of_cell? _ _ hw175_0; first | rwa [add_block] at this | exact this) GW177.out) | (rw [add_block]; exact Nat.ne_of_lt (Nat.lt_of_lt_of_le (by have := World.block_lt_of_cell? _ _ hw175_0; first | rwa [add_block] at this | exact this) GW177.out)) | (show (Addr.add _ _).block ≠ _; rw [add_block]; exact Nat.ne_of_lt (Nat.lt_of_lt_of_le (by have := World.block_lt_of_cell? _ _ hw175_0; first | rwa [add_block] at this | exact this) GW177.out)) | (dsimp only; exact Nat.ne_of_lt (Nat.lt_of_lt_of_le (by have := World.block_lt_of_cell? _ _ hw175_0; first | rwa [add_block] at this | exact this) GW177.out))) _).trans (((cell_far (p := ⟨gb177, _, none⟩) (by first | exact Nat.ne_of_lt (Nat.lt_of_lt_of_le (by have := World.block_lt_of_cell? _ _ hw175_0; first | rwa [add_block] at this | exact this) GW177.out) | (rw [add_block]; exact Nat.ne_of_lt (Nat.lt_of_lt_of_le (by have := World.block_lt_of_cell? _ _ hw175_0; first | rwa [add_block] at this | exact this) GW177.out)) | (show (Addr.add _ _).block ≠ _; rw [add_block]; exact Nat.ne_of_lt (Nat.lt_of_lt_of_le (by have := World.block_lt_of_cell? _ _ hw175_0; first | rwa [add_block] at this | exact this) GW177.out)) | (dsimp only; exact Nat.ne_of_lt (Nat.lt_of_lt_of_le (by have := World.block_lt_of_cell? _ _ hw175_0; first | rwa [add_block] at this | exact this) GW177.out))) _).trans (hHeld.1)))))))), ((cell_far (p := ⟨gb177, _, none⟩) (by first | exact Nat.ne_of_lt (Nat.lt_of_lt_of_le (by have := World.block_lt_of_cell? _ _ hw175_1; first | rwa [add_block] at this | exact this) GW177.out) | (rw [add_block]; exact Nat.ne_of_lt (Nat.lt_of_lt_of_le (by have := World.block_lt_of_cell? _ _ hw175_1; first | rwa [add_block] at this | exact this) GW177.out)) | (show (Addr.add _ _).block ≠ _; rw [add_block]; exact Nat.ne_of_lt (Nat.lt_of_lt_of_le (by have := World.block_lt_of_cell? _ _ hw175_1; first | rwa [add_block] at this | exact this) GW177.out)) | (dsimp only; exact Nat.ne_of_lt (Nat.lt_of_lt_of_le (by have := World.block_lt_of_cell? _ _ hw175_1; first | rwa [add_block] at this | exact this) GW177.out))) _).trans (((cell_far (p := ⟨gb177, _, none⟩) (by first | exact Nat.ne_of_lt (Nat.lt_of_lt_of_le (by have := World.block_lt_of_cell? _ _ hw175_1; first | rwa [add_block] at this | exact this) GW177.out) | (rw [add_block]; exact Nat.ne_of_lt (Nat.lt_of_lt_of_le (by have := World.block_lt_of_cell? _ _ hw175_1; first | rwa [add_block] at this | exact this) GW177.out)) | (show (Addr.add _ _).block ≠ _; rw [add_block]; exact Nat.ne_of_lt (Nat.lt_of_lt_of_le (by have := World.block_lt_of_cell? _ _ hw175_1; first | rwa [add_block] at this | exact this) GW177.out)) | (dsimp only; exact Nat.ne_of_lt (Nat.lt_of_lt_of_le (by have := World.block_lt_of_cell? _ _ hw175_1; first | rwa [add_block] at this | exact this) GW177.out))) _).trans (((cell_far (p := ⟨gb177, _, none⟩) (by first | exact Nat.ne_of_lt (Nat.lt_of_lt_of_le (by have := World.block_lt_of_cell? _ _ hw175_1; first | rwa [add_block] at this | exact this) GW177.out) | (rw [add_block]; exact Nat.ne_of_lt (Nat.lt_of_lt_of_le (by have := World.block_lt_of_cell? _ _ hw175_1; first | rwa [add_block] at this | exact this) GW177.out)) | (show (Addr.add _ _).block ≠ _; rw [add_block]; exact Nat.ne_of_lt (Nat.lt_of_lt_of_le (by have := World.block_lt_of_cell? _ _ hw175_1; first | rwa [add_block] at this | exact this) GW177.out)) | (dsimp only; exact Nat.ne_of_lt (Nat.lt_of_lt_of_le (by have := World.block_lt_of_cell? _ _ hw175_1; first | rwa [add_block] at this | exact this) GW177.out))) _).trans (((cell_far (p := ⟨gb177, _, none⟩) (by first | exact Nat.ne_of_lt (Nat.lt_of_lt_of_le (by have := World.block_lt_of_cell? _ _ hw175_1; first | rwa [add_block] at this | exact this) GW177.out) | (rw [add_block]; exact Nat.ne_of_lt (Nat.lt_of_lt_of_le (by have := World.block_lt_of_cell? _ _ hw175_1; first | rwa [add_block] at this | exact this) GW177.out)) | (show (Addr.add _ _).block ≠ _; rw [add_block]; exact Nat.ne_of_lt (Nat.lt_of_lt_of_le (by have := World.block_lt_of_cell? _ _ hw175_1; first | rwa [add_block] at this | exact this) GW177.out)) | (dsimp only; exact Nat.ne_of_lt (Nat.lt_of_lt_of_le (by have := World.block_lt_of_cell? _ _ hw175_1; first | rwa [add_block] at this | exact this) GW177.out))) _).trans (hHeld.2.1)))))))), ((cell_far (p := ⟨gb177, _, none⟩) (by first | exact Nat.ne_of_lt (Nat.lt_of_lt_of_le (by have := World.block_lt_of_cell? _ _ hw175_2; first | rwa [add_block] at this | exact this) GW177.out) | (rw [add_block]; exact Nat.ne_of_lt (Nat.lt_of_lt_of_le (by have := World.block_lt_of_cell? _ _ hw175_2; first | rwa [add_block] at this | exact this) GW177.out)) | (show (Addr.add _ _).block ≠ _; rw [add_block]; exact Nat.ne_of_lt (Nat.lt_of_lt_of_le (by have := World.block_lt_of_cell? _ _ hw175_2; first | rwa [add_block] at this | exact this) GW177.out)) | (dsimp only; exact Nat.ne_of_lt (Nat.lt_of_lt_of_le (by have := World.block_lt_of_cell? _ _ hw175_2; first | rwa [add_block] at this | exact this) GW177.out))) _).trans (((cell_far (p := ⟨gb177, _, none⟩) (by first | exact Nat.ne_of_lt (Nat.lt_of_lt_of_le (by have := World.block_lt_of_cell? _ _ hw175_2; first | rwa [add_block] at this | exact this) GW177.out) | (rw [add_block]; exact Nat.ne_of_lt (Nat.lt_of_lt_of_le (by have := World.block_lt_of_cell? _ _ hw175_2; first | rwa [add_block] at this | exact this) GW177.out)) | (show (Addr.add _ _).block ≠ _; rw [add_block]; exact Nat.ne_of_lt (Nat.lt_of_lt_of_le (by have := World.block_lt_of_cell? _ _ hw175_2; first | rwa [add_block] at this | exact this) GW177.out)) | (dsimp only; exact Nat.ne_of_lt (Nat.lt_of_lt_of_le (by have := World.block_lt_of_cell? _ _ hw175_2; first | rwa [add_block] at this | exact this) GW177.out))) _).trans (((cell_far (p := ⟨gb177, _, none⟩) (by first | exact Nat.ne_of_lt (Nat.lt_of_lt_of_le (by have := World.block_lt_of_cell? _ _ hw175_2; first | rwa [add_block] at this | exact this) GW177.out) | (rw [add_block]; exact Nat.ne_of_lt (Nat.lt_of_lt_of_le (by have := World.block_lt_of_cell? _ _ hw175_2; first | rwa [add_block] at this | exact this) GW177.out)) | (show (Addr.add _ _).block ≠ _; rw [add_block]; exact Nat.ne_of_lt (Nat.lt_of_lt_of_le (by have := World.block_lt_of_cell? _ _ hw175_2; first | rwa [add_block] at this | exact this) GW177.out)) | (dsimp only; exact Nat.ne_of_lt (Nat.lt_of_lt_of_le (by have := World.block_lt_of_cell? _ _ hw175_2; first | rwa [add_block] at this | exact this) GW177.out))) _).trans (((cell_far (p := ⟨gb177, _, none⟩) (by first | exact Nat.ne_of_lt (Nat.lt_of_lt_of_le (by have := World.block_lt_of_cell? _ _ hw175_2; first | rwa [add_block] at this | exact this) GW177.out) | (rw [add_block]; exact Nat.ne_of_lt (Nat.lt_of_lt_of_le (by have := World.block_lt_of_cell? _ _ hw175_2; first | rwa [add_block] at this | exact this) GW177.out)) | (show (Addr.add _ _).block ≠ _; rw [add_block]; exact Nat.ne_of_lt (Nat.lt_of_lt_of_le (by have := World.block_lt_of_cell? _ _ hw175_2; first | rwa [add_block] at this | exact this) GW177.out)) | (dsimp only; exact Nat.ne_of_lt (Nat.lt_of_lt_of_le (by have := World.block_lt_of_cell? _ _ hw175_2; first | rwa [add_block] at this | exact this) GW177.out))) _).trans (hHeld.2.2.1)))))))), ((cell_far (p := ⟨gb177, _, none⟩) (by first | exact Nat.ne_of_lt (Nat.lt_of_lt_of_le (by have := World.block_lt_of_cell? _ _ hw175_3; first | rwa [add_block] at this | exact this) GW177.out) | (rw [add_block]; exact Nat.ne_of_lt (Nat.lt_of_lt_of_le (by have := World.block_lt_of_cell? _ _ hw175_3; first | rwa [add_block] at this | exact this) GW177.out)) | (show (Addr.add _ _).block ≠ _; rw [add_block]; exact Nat.ne_of_lt (Nat.lt_of_lt_of_le (by have := World.block_lt_of_cell? _ _ hw175_3; first | rwa [add_block] at this | exact this) GW177.out)) | (dsimp only; exact Nat.ne_of_lt (Nat.lt_of_lt_of_le (by have := World.block_lt_of_cell? _ _ hw175_3; first | rwa [add_block] at this | exact this) GW177.out))) _).trans (((cell_far (p := ⟨gb177, _, none⟩) (by first | exact Nat.ne_of_lt (Nat.lt_of_lt_of_le (by have := World.block_lt_of_cell? _ _ hw175_3; first | rwa [add_block] at this | exact this) GW177.out) | (rw [add_block]; exact Nat.ne_of_lt (Nat.lt_of_lt_of_le (by have := World.block_lt_of_cell? _ _ hw175_3; first | rwa [add_block] at this | exact this) GW177.out)) | (show (Addr.add _ _).block ≠ _; rw [add_block]; exact Nat.ne_of_lt (Nat.lt_of_lt_of_le (by have := World.block_lt_of_cell? _ _ hw175_3; first | rwa [add_block] at this | exact this) GW177.out)) | (dsimp only; exact Nat.ne_of_lt (Nat.lt_of_lt_of_le (by have := World.block_lt_of_cell? _ _ hw175_3; first | rwa [add_block] at this | exact this) GW177.out))) _).trans (((cell_far (p := ⟨gb177, _, none⟩) (by first | exact Nat.ne_of_lt (Nat.lt_of_lt_of_le (by have := World.block_lt_of_cell? _ _ hw175_3; first | rwa [add_block] at this | exact this) GW177.out) | (rw [add_block]; exact Nat.ne_of_lt (Nat.lt_of_lt_of_le (by have := World.block_lt_of_cell? _ _ hw175_3; first | rwa [add_block] at this | exact this) GW177.out)) | (show (Addr.add _ _).block ≠ _; rw [add_block]; exact Nat.ne_of_lt (Nat.lt_of_lt_of_le (by have := World.block_lt_of_cell? _ _ hw175_3; first | rwa [add_block] at this | exact this) GW177.out)) | (dsimp only; exact Nat.ne_of_lt (Nat.lt_of_lt_of_le (by have := World.block_lt_of_cell? _ _ hw175_3; first | rwa [add_block] at this | exact this) GW177.out))) _).trans (((cell_far (p := ⟨gb177, _, none⟩) (by first | exact Nat.ne_of_lt (Nat.lt_of_lt_of_le (by have := World.block_lt_of_cell? _ _ hw175_3; first | rwa [add_block] at this | exact this) GW177.out) | (rw [add_block]; exact Nat.ne_of_lt (Nat.lt_of_lt_of_le (by have := World.block_lt_of_cell? _ _ hw175_3; first | rwa [add_block] at this | exact this) GW177.out)) | (show (Addr.add _ _).block ≠ _; rw [add_block]; exact Nat.ne_of_lt (Nat.lt_of_lt_of_le (by have := World.block_lt_of_cell? _ _ hw175_3; first | rwa [add_block] at this | exact this) GW177.out)) | (dsimp only; exact Nat.ne_of_lt (Nat.lt_of_lt_of_le (by have := World.block_lt_of_cell? _ _ hw175_3; first | rwa [add_block] at this | exact this) GW177.out))) _).trans (hHeld.2.2.2.1)))))))), ((cell_far (p := ⟨gb177, _, none⟩) (by first | exact Nat.ne_of_lt (Nat.lt_of_lt_of_le (by have := World.block_lt_of_cell? _ _ hw176_0; first | rwa [add_block] at this | exact this) GW177.out) | (rw [add_block]; exact Nat.ne_of_lt (Nat.lt_of_lt_of_le (by have := World.block_lt_of_cell? _ _ hw176_0; first | rwa [add_block] at this | exact this) GW177.out)) | (show (Addr.add _ _).block ≠ _; rw [add_block]; exact Nat.ne_of_lt (Nat.lt_of_lt_of_le (by have := World.block_lt_of_cell? _ _ hw176_0; first | rwa [add_block] at this | exact this) GW177.out)) | (dsimp only; exact Nat.ne_of_lt (Nat.lt_of_lt_of_le (by have := World.block_lt_of_cell? _ _ hw176_0; first | rwa [add_block] at this | exact this) GW177.out))) _).trans (((cell_far (p := ⟨gb177, _, none⟩) (by first | exact Nat.ne_of_lt (Nat.lt_of_lt_of_le (by have := World.block_lt_of_cell? _ _ hw176_0; first | rwa [add_block] at this | exact this) GW177.out) | (rw [add_block]; exact Nat.ne_of_lt (Nat.lt_of_lt_of_le (by have := World.block_lt_of_cell? _ _ hw176_0; first | rwa [add_block] at this | exact this) GW177.out)) | (show (Addr.add _ _).block ≠ _; rw [add_block]; exact Nat.ne_of_lt (Nat.lt_of_lt_of_le (by have := World.block_lt_of_cell? _ _ hw176_0; first | rwa [add_block] at this | exact this) GW177.out)) | (dsimp only; exact Nat.ne_of_lt (Nat.lt_of_lt_of_le (by have := World.block_lt_of_cell? _ _ hw176_0; first | rwa [add_block] at this | exact this) GW177.out))) _).trans (((cell_far (p := ⟨gb177, _, none⟩) (by first | exact Nat.ne_of_lt (Nat.lt_of_lt_of_le (by have := World.block_lt_of_cell? _ _ hw176_0; first | rwa [add_block] at this | exact this) GW177.out) | (rw [add_block]; exact Nat.ne_of_lt (Nat.lt_of_lt_of_le (by have := World.block_lt_of_cell? _ _ hw176_0; first | rwa [add_block] at this | exact this) GW177.out)) | (show (Addr.add _ _).block ≠ _; rw [add_block]; exact Nat.ne_of_lt (Nat.lt_of_lt_of_le (by have := World.block_lt_of_cell? _ _ hw176_0; first | rwa [add_block] at this | exact this) GW177.out)) | (dsimp only; exact Nat.ne_of_lt (Nat.lt_of_lt_of_le (by have := World.block_lt_of_cell? _ _ hw176_0; first | rwa [add_block] at this | exact this) GW177.out))) _).trans (((cell_far (p := ⟨gb177, _, none⟩) (by first | exact Nat.ne_of_lt (Nat.lt_of_lt_of_le (by have := World.block_lt_of_cell? _ _ hw176_0; first | rwa [add_block] at this | exact this) GW177.out) | (rw [add_block]; exact Nat.ne_of_lt (Nat.lt_of_lt_of_le (by have := World.block_lt_of_cell? _ _ hw176_0; first | rwa [add_block] at this | exact this) GW177.out)) | (show (Addr.add _ _).block ≠ _; rw [add_block]; exact Nat.ne_of_lt (Nat.lt_of_lt_of_le (by have := World.block_lt_of_cell? _ _ hw176_0; first | rwa [add_block] at this | exact this) GW177.out)) | (dsimp only; exact Nat.ne_of_lt (Nat.lt_of_lt_of_le (by have := World.block_lt_of_cell? _ _ hw176_0; first | rwa [add_block] at this | exact this) GW177.out))) _).trans (hHeld.2.2.2.2.1)))))))), ((cell_far (p := ⟨gb177, _, none⟩) (by first | exact Nat.ne_of_lt (Nat.lt_of_lt_of_le (by have := World.block_lt_of_cell? _ _ hw176_1; first | rwa [add_block] at this | exact this) GW177.out) | (rw [add_block]; exact Nat.ne_of_lt (Nat.lt_of_lt_of_le (by have := World.block_lt_of_cell? _ _ hw176_1; first | rwa [add_block] at this | exact this) GW177.out)) | (show (Addr.add _ _).block ≠ _; rw [add_block]; exact Nat.ne_of_lt (Nat.lt_of_lt_of_le (by have := World.block_lt_of_cell? _ _ hw176_1; first | rwa [add_block] at this | exact this) GW177.out)) | (dsimp only; exact Nat.ne_of_lt (Nat.lt_of_lt_of_le (by have := World.block_lt_of_cell? _ _ hw176_1; first | rwa [add_block] at this | exact this) GW177.out))) _).trans (((cell_far (p := ⟨gb177, _, none⟩) (by first | exact Nat.ne_of_lt (Nat.lt_of_lt_of_le (by have := World.block_lt_of_cell? _ _ hw176_1; first | rwa [add_block] at this | exact this) GW177.out) | (rw [add_block]; exact Nat.ne_of_lt (Nat.lt_of_lt_of_le (by have := World.block_lt_of_cell? _ _ hw176_1; first | rwa [add_block] at this | exact this) GW177.out)) | (show (Addr.add _ _).block ≠ _; rw [add_block]; exact Nat.ne_of_lt (Nat.lt_of_lt_of_le (by have := World.block_lt_of_cell? _ _ hw176_1; first | rwa [add_block] at this | exact this) GW177.out)) | (dsimp only; exact Nat.ne_of_lt (Nat.lt_of_lt_of_le (by have := World.block_lt_of_cell? _ _ hw176_1; first | rwa [add_block] at this | exact this) GW177.out))) _).trans (((cell_far (p := ⟨gb177, _, none⟩) (by first | exact Nat.ne_of_lt (Nat.lt_of_lt_of_le (by have := World.block_lt_of_cell? _ _ hw176_1; first | rwa [add_block] at this | exact this) GW177.out) | (rw [add_block]; exact Nat.ne_of_lt (Nat.lt_of_lt_of_le (by have := World.block_lt_of_cell? _ _ hw176_1; first | rwa [add_block] at this | exact this) GW177.out)) | (show (Addr.add _ _).block ≠ _; rw [add_block]; exact Nat.ne_of_lt (Nat.lt_of_lt_of_le (by have := World.block_lt_of_cell? _ _ hw176_1; first | rwa [add_block] at this | exact this) GW177.out)) | (dsimp only; exact Nat.ne_of_lt (Nat.lt_of_lt_of_le (by have := World.block_lt_of_cell? _ _ hw176_1; first | rwa [add_block] at this | exact this) GW177.out))) _).trans (((cell_far (p := ⟨gb177, _, none⟩) (by first | exact Nat.ne_of_lt (Nat.lt_of_lt_of_le (by have := World.block_lt_of_cell? _ _ hw176_1; first | rwa [add_block] at this | exact this) GW177.out) | (rw [add_block]; exact Nat.ne_of_lt (Nat.lt_of_lt_of_le (by have := World.block_lt_of_cell? _ _ hw176_1; first | rwa [add_block] at this | exact this) GW177.out)) | (show (Addr.add _ _).block ≠ _; rw [add_block]; exact Nat.ne_of_lt (Nat.lt_of_lt_of_le (by have := World.block_lt_of_cell? _ _ hw176_1; first | rwa [add_block] at this | exact this) GW177.out)) | (dsimp only; exact Nat.ne_of_lt (Nat.lt_of_lt_of_le (by have := World.block_lt_of_cell? _ _ hw176_1; first | rwa [add_block] at this | exact this) GW177.out))) _).trans (hHeld.2.2.2.2.2.1)))))))), ((cell_far (p := ⟨gb177, _, none⟩) (by first | exact Nat.ne_of_lt (Nat.lt_of_lt_of_le (by have := World.block_lt_of_cell? _ _ hw176_2; first | rwa [add_block] at this | exact this) GW177.out) | (rw [add_block]; exact Nat.ne_of_lt (Nat.lt_of_lt_of_le (by have := World.block_lt_of_cell? _ _ hw176_2; first | rwa [add_block] at this | exact this) GW177.out)) | (show (Addr.add _ _).block ≠ _; rw [add_block]; exact Nat.ne_of_lt (Nat.lt_of_lt_of_le (by have := World.block_lt_of_cell? _ _ hw176_2; first | rwa [add_block] at this | exact this) GW177.out)) | (dsimp only; exact Nat.ne_of_lt (Nat.lt_of_lt_of_le (by have := World.block_lt_of_cell? _ _ hw176_2; first | rwa [add_block] at this | exact this) GW177.out))) _).trans (((cell_far (p := ⟨gb177, _, none⟩) (by first | exact Nat.ne_of_lt (Nat.lt_of_lt_of_le (by have := World.block_lt_of_cell? _ _ hw176_2; first | rwa [add_block] at this | exact this) GW177.out) | (rw [add_block]; exact Nat.ne_of_lt (Nat.lt_of_lt_of_le (by have := World.block_lt_of_cell? _ _ hw176_2; first | rwa [add_block] at this | exact this) GW177.out)) | (show (Addr.add _ _).block ≠ _; rw [add_block]; exact Nat.ne_of_lt (Nat.lt_of_lt_of_le (by have := World.block_lt_of_cell? _ _ hw176_2; first | rwa [add_block] at this | exact this) GW177.out)) | (dsimp only; exact Nat.ne_of_lt (Nat.lt_of_lt_of_le (by have := World.block_lt_of_cell? _ _ hw176_2; first | rwa [add_block] at this | exact this) GW177.out))) _).trans (((cell_far (p := ⟨gb177, _, none⟩) (by first | exact Nat.ne_of_lt (Nat.lt_of_lt_of_le (by have := World.block_lt_of_cell? _ _ hw176_2; first | rwa [add_block] at this | exact this) GW177.out) | (rw [add_block]; exact Nat.ne_of_lt (Nat.lt_of_lt_of_le (by have := World.block_lt_of_cell? _ _ hw176_2; first | rwa [add_block] at this | exact this) GW177.out)) | (show (Addr.add _ _).block ≠ _; rw [add_block]; exact Nat.ne_of_lt (Nat.lt_of_lt_of_le (by have := World.block_lt_of_cell? _ _ hw176_2; first | rwa [add_block] at this | exact this) GW177.out)) | (dsimp only; exact Nat.ne_of_lt (Nat.lt_of_lt_of_le (by have := World.block_lt_of_cell? _ _ hw176_2; first | rwa [add_block] at this | exact this) GW177.out))) _).trans (((cell_far (p := ⟨gb177, _, none⟩) (by first | exact Nat.ne_of_lt (Nat.lt_of_lt_of_le (by have := World.block_lt_of_cell? _ _ hw176_2; first | rwa [add_block] at this | exact this) GW177.out) | (rw [add_block]; exact Nat.ne_of_lt (Nat.lt_of_lt_of_le (by have := World.block_lt_of_cell? _ _ hw176_2; first | rwa [add_block] at this | exact this) GW177.out)) | (show (Addr.add _ _).block ≠ _; rw [add_block]; exact Nat.ne_of_lt (Nat.lt_of_lt_of_le (by have := World.block_lt_of_cell? _ _ hw176_2; first | rwa [add_block] at this | exact this) GW177.out)) | (dsimp only; exact Nat.ne_of_lt (Nat.lt_of_lt_of_le (by have := World.block_lt_of_cell? _ _ hw176_2; first | rwa [add_block] at this | exact this) GW177.out))) _).trans (hHeld.2.2.2.2.2.2.1)))))))), ((cell_far (p := ⟨gb177, _, none⟩) (by first | exact Nat.ne_of_lt (Nat.lt_of_lt_of_le (by have := World.block_lt_of_cell? _ _ hw176_3; first | rwa [add_block] at this | exact this) GW177.out) | (rw [add_block]; exact Nat.ne_of_lt (Nat.lt_of_lt_of_le (by have := World.block_lt_of_cell? _ _ hw176_3; first | rwa [add_block] at this | exact this) GW177.out)) | (show (Addr.add _ _).block ≠ _; rw [add_block]; exact Nat.ne_of_lt (Nat.lt_of_lt_of_le (by have := World.block_lt_of_cell? _ _ hw176_3; first | rwa [add_block] at this | exact this) GW177.out)) | (dsimp only; exact Nat.ne_of_lt (Nat.lt_of_lt_of_le (by have := World.block_lt_of_cell? _ _ hw176_3; first | rwa [add_block] at this | exact this) GW177.out))) _).trans (((cell_far (p := ⟨gb177, _, none⟩) (by first | exact Nat.ne_of_lt (Nat.lt_of_lt_of_le (by have := World.block_lt_of_cell? _ _ hw176_3; first | rwa [add_block] at this | exact this) GW177.out) | (rw [add_block]; exact Nat.ne_of_lt (Nat.lt_of_lt_of_le (by have := World.block_lt_of_cell? _ _ hw176_3; first | rwa [add_block] at this | exact this) GW177.out)) | (show (Addr.add _ _).block ≠ _; rw [add_block]; exact Nat.ne_of_lt (Nat.lt_of_lt_of_le (by have := World.block_lt_of_cell? _ _ hw176_3; first | rwa [add_block] at this | exact this) GW177.out)) | (dsimp only; exact Nat.ne_of_lt (Nat.lt_of_lt_of_le (by have := World.block_lt_of_cell? _ _ hw176_3; first | rwa [add_block] at this | exact this) GW177.out))) _).trans (((cell_far (p := ⟨gb177, _, none⟩) (by first | exact Nat.ne_of_lt (Nat.lt_of_lt_of_le (by have := World.block_lt_of_cell? _ _ hw176_3; first | rwa [add_block] at this | exact this) GW177.out) | (rw [add_block]; exact Nat.ne_of_lt (Nat.lt_of_lt_of_le (by have := World.block_lt_of_cell? _ _ hw176_3; first | rwa [add_block] at this | exact this) GW177.out)) | (show (Addr.add _ _).block ≠ _; rw [add_block]; exact Nat.ne_of_lt (Nat.lt_of_lt_of_le (by have := World.block_lt_of_cell? _ _ hw176_3; first | rwa [add_block] at this | exact this) GW177.out)) | (dsimp only; exact Nat.ne_of_lt (Nat.lt_of_lt_of_le (by have := World.block_lt_of_cell? _ _ hw176_3; first | rwa [add_block] at this | exact this) GW177.out))) _).trans (((cell_far (p := ⟨gb177, _, none⟩) (by first | exact Nat.ne_of_lt (Nat.lt_of_lt_of_le (by have := World.block_lt_of_cell? _ _ hw176_3; first | rwa [add_block] at this | exact this) GW177.out) | (rw [add_block]; exact Nat.ne_of_lt (Nat.lt_of_lt_of_le (by have := World.block_lt_of_cell? _ _ hw176_3; first | rwa [add_block] at this | exact this) GW177.out)) | (show (Addr.add _ _).block ≠ _; rw [add_block]; exact Nat.ne_of_lt (Nat.lt_of_lt_of_le (by have := World.block_lt_of_cell? _ _ hw176_3; first | rwa [add_block] at this | exact this) GW177.out)) | (dsimp only; exact Nat.ne_of_lt (Nat.lt_of_lt_of_le (by have := World.block_lt_of_cell? _ _ hw176_3; first | rwa [add_block] at this | exact this) GW177.out))) _).trans (hHeld.2.2.2.2.2.2.2))))))))⟩ (fun hHeld => ?_)
     clear hK K
     refine one_ (i := 11) (N := none) (bm 12 0xfff) rfl rfl (one_of HT_.out (by kernel_rfl)) (by decide) (fun K hK => ?_)
     have hs20 : w15.cell? ⟨gb178, 0, none⟩ = some (.string (⟨#[]⟩ : ByteArray)) := (blk_cell BK178.out 0).trans rfl
     have hfs20 := blk_frozen BK178.out 0; have hns20_0 := NB174_178.out; have hns20_1 := NB177_178.out
     have hms20_0 := NB178_174.out
     have hms20_1 := NB178_177.out
     have hs21 : w15.cell? ⟨gb178, 1, none⟩ = some (.int .i64 0) := (blk_cell BK178.out 1).trans rfl
     have hfs21 := blk_frozen BK178.out 1; have hns21_0 := NB174_178.out; have hns21_1 := NB177_178.out
     have hms21_0 := NB178_174.out
     have hms21_1 := NB178_177.out
     have hs22 : w15.cell? ⟨gb178, 2, none⟩ = some (.int .i64 0) := (blk_cell BK178.out 2).trans rfl
     have hfs22 := blk_frozen BK178.out 2; have hns22_0 := NB174_178.out; have hns22_1 := NB177_178.out
     have hms22_0 := NB178_174.out
     have hms22_1 := NB178_177.out
     have hs23 : w15.cell? ⟨gb178, 3, none⟩ = some (.bool false) := (blk_cell BK178.out 3).trans rfl
     have hfs23 := blk_frozen BK178.out 3; have hns23_0 := NB174_178.out; have hns23_1 := NB177_178.out
     have hms23_0 := NB178_174.out
     have hms23_1 := NB178_177.out
     refine skip_ (w1 := ?_) (by rfl) rfl ?_ ?_
     rotate_left
     ·go_simp
      rfl
     refine hK.out _ _ ⟨((cell_far (p := ⟨gb178, _, none⟩) (by first | exact Nat.ne_of_lt (Nat.lt_of_lt_of_le (by have := World.block_lt_of_cell? _ _ hw175_0; first | rwa [add_block] at this | exact this) GW178.out) | (rw [add_block]; exact Nat.ne_of_lt (Nat.lt_of_lt_of_le (by have := World.block_lt_of_cell? _ _ hw175_0; first | rwa [add_block] at this | exact this) GW178.out)) | (show (Addr.add _ _).block ≠ _; rw [add_block]; exact Nat.ne_of_lt (Nat.lt_of_lt_of_le (by have := World.block_lt_of_cell? _ _ hw175_0; first | rwa [add_block] at this | exact this) GW178.out)) | (dsimp only; exact Nat.ne_of_lt (Nat.lt_of_lt_of_le (by have := World.block_lt_of_cell? _ _ hw175_0; first | rwa [add_block] at this | exact this) GW178.out))) _).trans (((cell_far (p := ⟨gb178, _, none⟩) (by first | exact Nat.ne_of_lt (Nat.lt_of_lt_of_le (by have := World.block_lt_of_cell? _ _ hw175_0; first | rwa [add_block] at this | exact this) GW178.out) | (rw [add_block]; exact Nat.ne_of_lt (Nat.lt_of_lt_of_le (by have := World.block_lt_of_cell? _ _ hw175_0; first | rwa [add_block] at this | exact this) GW178.out)) | (show (Addr.add _ _).block ≠ _; rw [add_block]; exact Nat.ne_of_lt (Nat.lt_of_lt_of_le (by have := World.block_lt_of_cell? _ _ hw175_0; first | rwa [add_block] at this | exact this) GW178.out)) | (dsimp only; exact Nat.ne_of_lt (Nat.lt_of_lt_of_le (by have := World.block_lt_of_cell? _ _ hw175_0; first | rwa [add_block] at this | exact this) GW178.out))) _).trans (((cell_far (p := ⟨gb178, _, none⟩) (by first | exact Nat.ne_of_lt (Nat.lt_of_lt_of_le (by have := World.block_lt_of_cell? _ _ hw175_0; first | rwa [add_block] at this | exact this) GW178.out) | (rw [add_block]; exact Nat.ne_of_lt (Nat.lt_of_lt_of_le (by have := World.block_lt_of_cell? _ _ hw175_0; first | rwa [add_block] at this | exact this) GW178.out)) | (show (Addr.add _ _).block ≠ _; rw [add_block]; exact Nat.ne_of_lt (Nat.lt_of_lt_of_le (by have := World.block_lt_of_cell? _ _ hw175_0; first | rwa [add_block] at this | exact this) GW178.out)) | (dsimp only; exact Nat.ne_of_lt (Nat.lt_of_lt_of_le (by have := World.block_lt_of_cell? _ _ hw175_0; first | rwa [add_block] at this | exact this) GW178.out))) _).trans (((cell_far (p := ⟨gb178, _, none⟩) (by first | exact Nat.ne_of_lt (Nat.lt_of_lt_of_le (by have := World.block_lt_of_cell? _ _ hw175_0; first | rwa [add_block] at this | exact this) GW178.out) | (rw [add_block]; exact Nat.ne_of_lt (Nat.lt_of_lt_of_le (by have := World.block_lt_of_cell? _ _ hw175_0; first | rwa [add_block] at this | exact this) GW178.out)) | (show (Addr.add _ _).block ≠ _; rw [add_block]; exact Nat.ne_of_lt (Nat.lt_of_lt_of_le (by have := World.block_lt_of_cell? _ _ hw175_0; first | rwa [add_block] at this | exact this) GW178.out)) | (dsimp only; exact Nat.ne_of_lt (Nat.lt_of_lt_of_le (by have := World.block_lt_of_cell? _ _ hw175_0; first | rwa [add_block] at this | exact this) GW178.out))) _).trans (hHeld.1)))))))), ((cell_far (p := ⟨gb178, _, none⟩) (by first | exact Nat.ne_of_lt (Nat.lt_of_lt_of_le (by have := World.block_lt_of_cell? _ _ hw175_1; first | rwa [add_block] at this | exact this) GW178.out) | (rw [add_block]; exact Nat.ne_of_lt (Nat.lt_of_lt_of_le (by have := World.block_lt_of_cell? _ _ hw175_1; first | rwa [add_block] at this | exact this) GW178.out)) | (show (Addr.add _ _).block ≠ _; rw [add_block]; exact Nat.ne_of_lt (Nat.lt_of_lt_of_le (by have := World.block_lt_of_cell? _ _ hw175_1; first | rwa [add_block] at this | exact this) GW178.out)) | (dsimp only; exact Nat.ne_of_lt (Nat.lt_of_lt_of_le (by have := World.block_lt_of_cell? _ _ hw175_1; first | rwa [add_block] at this | exact this) GW178.out))) _).trans (((cell_far (p := ⟨gb178, _, none⟩) (by first | exact Nat.ne_of_lt (Nat.lt_of_lt_of_le (by have := World.block_lt_of_cell? _ _ hw175_1; first | rwa [add_block] at this | exact this) GW178.out) | (rw [add_block]; exact Nat.ne_of_lt (Nat.lt_of_lt_of_le (by have := World.block_lt_of_cell? _ _ hw175_1; first | rwa [add_block] at this | exact this) GW178.out)) | (show (Addr.add _ _).block ≠ _; rw [add_block]; exact Nat.ne_of_lt (Nat.lt_of_lt_of_le (by have := World.block_lt_of_cell? _ _ hw175_1; first | rwa [add_block] at this | exact this) GW178.out)) | (dsimp only; exact Nat.ne_of_lt (Nat.lt_of_lt_of_le (by have := World.block_lt_of_cell? _ _ hw175_1; first | rwa [add_block] at this | exact this) GW178.out))) _).trans (((cell_far (p := ⟨gb178, _, none⟩) (by first | exact Nat.ne_of_lt (Nat.lt_of_lt_of_le (by have := World.block_lt_of_cell? _ _ hw175_1; first | rwa [add_block] at this | exact this) GW178.out) | (rw [add_block]; exact Nat.ne_of_lt (Nat.lt_of_lt_of_le (by have := World.block_lt_of_cell? _ _ hw175_1; first | rwa [add_block] at this | exact this) GW178.out)) | (show (Addr.add _ _).block ≠ _; rw [add_block]; exact Nat.ne_of_lt (Nat.lt_of_lt_of_le (by have := World.block_lt_of_cell? _ _ hw175_1; first | rwa [add_block] at this | exact this) GW178.out)) | (dsimp only; exact Nat.ne_of_lt (Nat.lt_of_lt_of_le (by have := World.block_lt_of_cell? _ _ hw175_1; first | rwa [add_block] at this | exact this) GW178.out))) _).trans (((cell_far (p := ⟨gb178, _, none⟩) (by first | exact Nat.ne_of_lt (Nat.lt_of_lt_of_le (by have := World.block_lt_of_cell? _ _ hw175_1; first | rwa [add_block] at this | exact this) GW178.out) | (rw [add_block]; exact Nat.ne_of_lt (Nat.lt_of_lt_of_le (by have := World.block_lt_of_cell? _ _ hw175_1; first | rwa [add_block] at this | exact this) GW178.out)) | (show (Addr.add _ _).block ≠ _; rw [add_block]; exact Nat.ne_of_lt (Nat.lt_of_lt_of_le (by have := World.block_lt_of_cell? _ _ hw175_1; first | rwa [add_block] at this | exact this) GW178.out)) | (dsimp only; exact Nat.ne_of_lt (Nat.lt_of_lt_of_le (by have := World.block_lt_of_cell? _ _ hw175_1; first | rwa [add_block] at this | exact this) GW178.out))) _).trans (hHeld.2.1)))))))), ((cell_far (p := ⟨gb178, _, none⟩) (by first | exact Nat.ne_of_lt (Nat.lt_of_lt_of_le (by have := World.block_lt_of_cell? _ _ hw175_2; first | rwa [add_block] at this | exact this) GW178.out) | (rw [add_block]; exact Nat.ne_of_lt (Nat.lt_of_lt_of_le (by have := World.block_lt_of_cell? _ _ hw175_2; first | rwa [add_block] at this | exact this) GW178.out)) | (show (Addr.add _ _).block ≠ _; rw [add_block]; exact Nat.ne_of_lt (Nat.lt_of_lt_of_le (by have := World.block_lt_of_cell? _ _ hw175_2; first | rwa [add_block] at this | exact this) GW178.out)) | (dsimp only; exact Nat.ne_of_lt (Nat.lt_of_lt_of_le (by have := World.block_lt_of_cell? _ _ hw175_2; first | rwa [add_block] at this | exact this) GW178.out))) _).trans (((cell_far (p := ⟨gb178, _, none⟩) (by first | exact Nat.ne_of_lt (Nat.lt_of_lt_of_le (by have := World.block_lt_of_cell? _ _ hw175_2; first | rwa [add_block] at this | exact this) GW178.out) | (rw [add_block]; exact Nat.ne_of_lt (Nat.lt_of_lt_of_le (by have := World.block_lt_of_cell? _ _ hw175_2; first | rwa [add_block] at this | exact this) GW178.out)) | (show (Addr.add _ _).block ≠ _; rw [add_block]; exact Nat.ne_of_lt (Nat.lt_of_lt_of_le (by have := World.block_lt_of_cell? _ _ hw175_2; first | rwa [add_block] at this | exact this) GW178.out)) | (dsimp only; exact Nat.ne_of_lt (Nat.lt_of_lt_of_le (by have := World.block_lt_of_cell? _ _ hw175_2; first | rwa [add_block] at this | exact this) GW178.out))) _).trans (((cell_far (p := ⟨gb178, _, none⟩) (by first | exact Nat.ne_of_lt (Nat.lt_of_lt_of_le (by have := World.block_lt_of_cell? _ _ hw175_2; first | rwa [add_block] at this | exact this) GW178.out) | (rw [add_block]; exact Nat.ne_of_lt (Nat.lt_of_lt_of_le (by have := World.block_lt_of_cell? _ _ hw175_2; first | rwa [add_block] at this | exact this) GW178.out)) | (show (Addr.add _ _).block ≠ _; rw [add_block]; exact Nat.ne_of_lt (Nat.lt_of_lt_of_le (by have := World.block_lt_of_cell? _ _ hw175_2; first | rwa [add_block] at this | exact this) GW178.out)) | (dsimp only; exact Nat.ne_of_lt (Nat.lt_of_lt_of_le (by have := World.block_lt_of_cell? _ _ hw175_2; first | rwa [add_block] at this | exact this) GW178.out))) _).trans (((cell_far (p := ⟨gb178, _, none⟩) (by first | exact Nat.ne_of_lt (Nat.lt_of_lt_of_le (by have := World.block_lt_of_cell? _ _ hw175_2; first | rwa [add_block] at this | exact this) GW178.out) | (rw [add_block]; exact Nat.ne_of_lt (Nat.lt_of_lt_of_le (by have := World.block_lt_of_cell? _ _ hw175_2; first | rwa [add_block] at this | exact this) GW178.out)) | (show (Addr.add _ _).block ≠ _; rw [add_block]; exact Nat.ne_of_lt (Nat.lt_of_lt_of_le (by have := World.block_lt_of_cell? _ _ hw175_2; first | rwa [add_block] at this | exact this) GW178.out)) | (dsimp only; exact Nat.ne_of_lt (Nat.lt_of_lt_of_le (by have := World.block_lt_of_cell? _ _ hw175_2; first | rwa [add_block] at this | exact this) GW178.out))) _).trans (hHeld.2.2.1)))))))), ((cell_far (p := ⟨gb178, _, none⟩) (by first | exact Nat.ne_of_lt (Nat.lt_of_lt_of_le (by have := World.block_lt_of_cell? _ _ hw175_3; first | rwa [add_block] at this | exact this) GW178.out) | (rw [add_block]; exact Nat.ne_of_lt (Nat.lt_of_lt_of_le (by have := World.block_lt_of_cell? _ _ hw175_3; first | rwa [add_block] at this | exact this) GW178.out)) | (show (Addr.add _ _).block ≠ _; rw [add_block]; exact Nat.ne_of_lt (Nat.lt_of_lt_of_le (by have := World.block_lt_of_cell? _ _ hw175_3; first | rwa [add_block] at this | exact this) GW178.out)) | (dsimp only; exact Nat.ne_of_lt (Nat.lt_of_lt_of_le (by have := World.block_lt_of_cell? _ _ hw175_3; first | rwa [add_block] at this | exact this) GW178.out))) _).trans (((cell_far (p := ⟨gb178, _, none⟩) (by first | exact Nat.ne_of_lt (Nat.lt_of_lt_of_le (by have := World.block_lt_of_cell? _ _ hw175_3; first | rwa [add_block] at this | exact this) GW178.out) | (rw [add_block]; exact Nat.ne_of_lt (Nat.lt_of_lt_of_le (by have := World.block_lt_of_cell? _ _ hw175_3; first | rwa [add_block] at this | exact this) GW178.out)) | (show (Addr.add _ _).block ≠ _; rw [add_block]; exact Nat.ne_of_lt (Nat.lt_of_lt_of_le (by have := World.block_lt_of_cell? _ _ hw175_3; first | rwa [add_block] at this | exact this) GW178.out)) | (dsimp only; exact Nat.ne_of_lt (Nat.lt_of_lt_of_le (by have := World.block_lt_of_cell? _ _ hw175_3; first | rwa [add_block] at this | exact this) GW178.out))) _).trans (((cell_far (p := ⟨gb178, _, none⟩) (by first | exact Nat.ne_of_lt (Nat.lt_of_lt_of_le (by have := World.block_lt_of_cell? _ _ hw175_3; first | rwa [add_block] at this | exact this) GW178.out) | (rw [add_block]; exact Nat.ne_of_lt (Nat.lt_of_lt_of_le (by have := World.block_lt_of_cell? _ _ hw175_3; first | rwa [add_block] at this | exact this) GW178.out)) | (show (Addr.add _ _).block ≠ _; rw [add_block]; exact Nat.ne_of_lt (Nat.lt_of_lt_of_le (by have := World.block_lt_of_cell? _ _ hw175_3; first | rwa [add_block] at this | exact this) GW178.out)) | (dsimp only; exact Nat.ne_of_lt (Nat.lt_of_lt_of_le (by have := World.block_lt_of_cell? _ _ hw175_3; first | rwa [add_block] at this | exact this) GW178.out))) _).trans (((cell_far (p := ⟨gb178, _, none⟩) (by first | exact Nat.ne_of_lt (Nat.lt_of_lt_of_le (by have := World.block_lt_of_cell? _ _ hw175_3; first | rwa [add_block] at this | exact this) GW178.out) | (rw [add_block]; exact Nat.ne_of_lt (Nat.lt_of_lt_of_le (by have := World.block_lt_of_cell? _ _ hw175_3; first | rwa [add_block] at this | exact this) GW178.out)) | (show (Addr.add _ _).block ≠ _; rw [add_block]; exact Nat.ne_of_lt (Nat.lt_of_lt_of_le (by have := World.block_lt_of_cell? _ _ hw175_3; first | rwa [add_block] at this | exact this) GW178.out)) | (dsimp only; exact Nat.ne_of_lt (Nat.lt_of_lt_of_le (by have := World.block_lt_of_cell? _ _ hw175_3; first | rwa [add_block] at this | exact this) GW178.out))) _).trans (hHeld.2.2.2.1)))))))), ((cell_far (p := ⟨gb178, _, none⟩) (by first | exact Nat.ne_of_lt (Nat.lt_of_lt_of_le (by have := World.block_lt_of_cell? _ _ hw176_0; first | rwa [add_block] at this | exact this) GW178.out) | (rw [add_block]; exact Nat.ne_of_lt (Nat.lt_of_lt_of_le (by have := World.block_lt_of_cell? _ _ hw176_0; first | rwa [add_block] at this | exact this) GW178.out)) | (show (Addr.add _ _).block ≠ _; rw [add_block]; exact Nat.ne_of_lt (Nat.lt_of_lt_of_le (by have := World.block_lt_of_cell? _ _ hw176_0; first | rwa [add_block] at this | exact this) GW178.out)) | (dsimp only; exact Nat.ne_of_lt (Nat.lt_of_lt_of_le (by have := World.block_lt_of_cell? _ _ hw176_0; first | rwa [add_block] at this | exact this) GW178.out))) _).trans (((cell_far (p := ⟨gb178, _, none⟩) (by first | exact Nat.ne_of_lt (Nat.lt_of_lt_of_le (by have := World.block_lt_of_cell? _ _ hw176_0; first | rwa [add_block] at this | exact this) GW178.out) | (rw [add_block]; exact Nat.ne_of_lt (Nat.lt_of_lt_of_le (by have := World.block_lt_of_cell? _ _ hw176_0; first | rwa [add_block] at this | exact this) GW178.out)) | (show (Addr.add _ _).block ≠ _; rw [add_block]; exact Nat.ne_of_lt (Nat.lt_of_lt_of_le (by have := World.block_lt_of_cell? _ _ hw176_0; first | rwa [add_block] at this | exact this) GW178.out)) | (dsimp only; exact Nat.ne_of_lt (Nat.lt_of_lt_of_le (by have := World.block_lt_of_cell? _ _ hw176_0; first | rwa [add_block] at this | exact this) GW178.out))) _).trans (((cell_far (p := ⟨gb178, _, none⟩) (by first | exact Nat.ne_of_lt (Nat.lt_of_lt_of_le (by have := World.block_lt_of_cell? _ _ hw176_0; first | rwa [add_block] at this | exact this) GW178.out) | (rw [add_block]; exact Nat.ne_of_lt (Nat.lt_of_lt_of_le (by have := World.block_lt_of_cell? _ _ hw176_0; first | rwa [add_block] at this | exact this) GW178.out)) | (show (Addr.add _ _).block ≠ _; rw [add_block]; exact Nat.ne_of_lt (Nat.lt_of_lt_of_le (by have := World.block_lt_of_cell? _ _ hw176_0; first | rwa [add_block] at this | exact this) GW178.out)) | (dsimp only; exact Nat.ne_of_lt (Nat.lt_of_lt_of_le (by have := World.block_lt_of_cell? _ _ hw176_0; first | rwa [add_block] at this | exact this) GW178.out))) _).trans (((cell_far (p := ⟨gb178, _, none⟩) (by first | exact Nat.ne_of_lt (Nat.lt_of_lt_of_le (by have := World.block_lt_of_cell? _ _ hw176_0; first | rwa [add_block] at this | exact this) GW178.out) | (rw [add_block]; exact Nat.ne_of_lt (Nat.lt_of_lt_of_le (by have := World.block_lt_of_cell? _ _ hw176_0; first | rwa [add_block] at this | exact this) GW178.out)) | (show (Addr.add _ _).block ≠ _; rw [add_block]; exact Nat.ne_of_lt (Nat.lt_of_lt_of_le (by have := World.block_lt_of_cell? _ _ hw176_0; first | rwa [add_block] at this | exact this) GW178.out)) | (dsimp only; exact Nat.ne_of_lt (Nat.lt_of_lt_of_le (by have := World.block_lt_of_cell? _ _ hw176_0; first | rwa [add_block] at this | exact this) GW178.out))) _).trans (hHeld.2.2.2.2.1)))))))), ((cell_far (p := ⟨gb178, _, none⟩) (by first | exact Nat.ne_of_lt (Nat.lt_of_lt_of_le (by have := World.block_lt_of_cell? _ _ hw176_1; first | rwa [add_block] at this | exact this) GW178.out) | (rw [add_block]; exact Nat.ne_of_lt (Nat.lt_of_lt_of_le (by have := World.block_lt_of_cell? _ _ hw176_1; first | rwa [add_block] at this | exact this) GW178.out)) | (show (Addr.add _ _).block ≠ _; rw [add_block]; exact Nat.ne_of_lt (Nat.lt_of_lt_of_le (by have := World.block_lt_of_cell? _ _ hw176_1; first | rwa [add_block] at this | exact this) GW178.out)) | (dsimp only; exact Nat.ne_of_lt (Nat.lt_of_lt_of_le (by have := World.block_lt_of_cell? _ _ hw176_1; first | rwa [add_block] at this | exact this) GW178.out))) _).trans (((cell_far (p := ⟨gb178, _, none⟩) (by first | exact Nat.ne_of_lt (Nat.lt_of_lt_of_le (by have := World.block_lt_of_cell? _ _ hw176_1; first | rwa [add_block] at this | exact this) GW178.out) | (rw [add_block]; exact Nat.ne_of_lt (Nat.lt_of_lt_of_le (by have := World.block_lt_of_cell? _ _ hw176_1; first | rwa [add_block] at this | exact this) GW178.out)) | (show (Addr.add _ _).block ≠ _; rw [add_block]; exact Nat.ne_of_lt (Nat.lt_of_lt_of_le (by have := World.block_lt_of_cell? _ _ hw176_1; first | rwa [add_block] at this | exact this) GW178.out)) | (dsimp only; exact Nat.ne_of_lt (Nat.lt_of_lt_of_le (by have := World.block_lt_of_cell? _ _ hw176_1; first | rwa [add_block] at this | exact this) GW178.out))) _).trans (((cell_far (p := ⟨gb178, _, none⟩) (by first | exact Nat.ne_of_lt (Nat.lt_of_lt_of_le (by have := World.block_lt_of_cell? _ _ hw176_1; first | rwa [add_block] at this | exact this) GW178.out) | (rw [add_block]; exact Nat.ne_of_lt (Nat.lt_of_lt_of_le (by have := World.block_lt_of_cell? _ _ hw176_1; first | rwa [add_block] at this | exact this) GW178.out)) | (show (Addr.add _ _).block ≠ _; rw [add_block]; exact Nat.ne_of_lt (Nat.lt_of_lt_of_le (by have := World.block_lt_of_cell? _ _ hw176_1; first | rwa [add_block] at this | exact this) GW178.out)) | (dsimp only; exact Nat.ne_of_lt (Nat.lt_of_lt_of_le (by have := World.block_lt_of_cell? _ _ hw176_1; first | rwa [add_block] at this | exact this) GW178.out))) _).trans (((cell_far (p := ⟨gb178, _, none⟩) (by first | exact Nat.ne_of_lt (Nat.lt_of_lt_of_le (by have := World.block_lt_of_cell? _ _ hw176_1; first | rwa [add_block] at this | exact this) GW178.out) | (rw [add_block]; exact Nat.ne_of_lt (Nat.lt_of_lt_of_le (by have := World.block_lt_of_cell? _ _ hw176_1; first | rwa [add_block] at this | exact this) GW178.out)) | (show (Addr.add _ _).block ≠ _; rw [add_block]; exact Nat.ne_of_lt (Nat.lt_of_lt_of_le (by have := World.block_lt_of_cell? _ _ hw176_1; first | rwa [add_block] at this | exact this) GW178.out)) | (dsimp only; exact Nat.ne_of_lt (Nat.lt_of_lt_of_le (by have := World.block_lt_of_cell? _ _ hw176_1; first | rwa [add_block] at this | exact this) GW178.out))) _).trans (hHeld.2.2.2.2.2.1)))))))), ((cell_far (p := ⟨gb178, _, none⟩) (by first | exact Nat.ne_of_lt (Nat.lt_of_lt_of_le (by have := World.block_lt_of_cell? _ _ hw176_2; first | rwa [add_block] at this | exact this) GW178.out) | (rw [add_block]; exact Nat.ne_of_lt (Nat.lt_of_lt_of_le (by have := World.block_lt_of_cell? _ _ hw176_2; first | rwa [add_block] at this | exact this) GW178.out)) | (show (Addr.add _ _).block ≠ _; rw [add_block]; exact Nat.ne_of_lt (Nat.lt_of_lt_of_le (by have := World.block_lt_of_cell? _ _ hw176_2; first | rwa [add_block] at this | exact this) GW178.out)) | (dsimp only; exact Nat.ne_of_lt (Nat.lt_of_lt_of_le (by have := World.block_lt_of_cell? _ _ hw176_2; first | rwa [add_block] at this | exact this) GW178.out))) _).trans (((cell_far (p := ⟨gb178, _, none⟩) (by first | exact Nat.ne_of_lt (Nat.lt_of_lt_of_le (by have := World.block_lt_of_cell? _ _ hw176_2; first | rwa [add_block] at this | exact this) GW178.out) | (rw [add_block]; exact Nat.ne_of_lt (Nat.lt_of_lt_of_le (by have := World.block_lt_of_cell? _ _ hw176_2; first | rwa [add_block] at this | exact this) GW178.out)) | (show (Addr.add _ _).block ≠ _; rw [add_block]; exact Nat.ne_of_lt (Nat.lt_of_lt_of_le (by have := World.block_lt_of_cell? _ _ hw176_2; first | rwa [add_block] at this | exact this) GW178.out)) | (dsimp only; exact Nat.ne_of_lt (Nat.lt_of_lt_of_le (by have := World.block_lt_of_cell? _ _ hw176_2; first | rwa [add_block] at this | exact this) GW178.out))) _).trans (((cell_far (p := ⟨gb178, _, none⟩) (by first | exact Nat.ne_of_lt (Nat.lt_of_lt_of_le (by have := World.block_lt_of_cell? _ _ hw176_2; first | rwa [add_block] at this | exact this) GW178.out) | (rw [add_block]; exact Nat.ne_of_lt (Nat.lt_of_lt_of_le (by have := World.block_lt_of_cell? _ _ hw176_2; first | rwa [add_block] at this | exact this) GW178.out)) | (show (Addr.add _ _).block ≠ _; rw [add_block]; exact Nat.ne_of_lt (Nat.lt_of_lt_of_le (by have := World.block_lt_of_cell? _ _ hw176_2; first | rwa [add_block] at this | exact this) GW178.out)) | (dsimp only; exact Nat.ne_of_lt (Nat.lt_of_lt_of_le (by have := World.block_lt_of_cell? _ _ hw176_2; first | rwa [add_block] at this | exact this) GW178.out))) _).trans (((cell_far (p := ⟨gb178, _, none⟩) (by first | exact Nat.ne_of_lt (Nat.lt_of_lt_of_le (by have := World.block_lt_of_cell? _ _ hw176_2; first | rwa [add_block] at this | exact this) GW178.out) | (rw [add_block]; exact Nat.ne_of_lt (Nat.lt_of_lt_of_le (by have := World.block_lt_of_cell? _ _ hw176_2; first | rwa [add_block] at this | exact this) GW178.out)) | (show (Addr.add _ _).block ≠ _; rw [add_block]; exact Nat.ne_of_lt (Nat.lt_of_lt_of_le (by have := World.block_lt_of_cell? _ _ hw176_2; first | rwa [add_block] at this | exact this) GW178.out)) | (dsimp only; exact Nat.ne_of_lt (Nat.lt_of_lt_of_le (by have := World.block_lt_of_cell? _ _ hw176_2; first | rwa [add_block] at this | exact this) GW178.out))) _).trans (hHeld.2.2.2.2.2.2.1)))))))), ((cell_far (p := ⟨gb178, _, none⟩) (by first | exact Nat.ne_of_lt (Nat.lt_of_lt_of_le (by have := World.block_lt_of_cell? _ _ hw176_3; first | rwa [add_block] at this | exact this) GW178.out) | (rw [add_block]; exact Nat.ne_of_lt (Nat.lt_of_lt_of_le (by have := World.block_lt_of_cell? _ _ hw176_3; first | rwa [add_block] at this | exact this) GW178.out)) | (show (Addr.add _ _).block ≠ _; rw [add_block]; exact Nat.ne_of_lt (Nat.lt_of_lt_of_le (by have := World.block_lt_of_cell? _ _ hw176_3; first | rwa [add_block] at this | exact this) GW178.out)) | (dsimp only; exact Nat.ne_of_lt (Nat.lt_of_lt_of_le (by have := World.block_lt_of_cell? _ _ hw176_3; first | rwa [add_block] at this | exact this) GW178.out))) _).trans (((cell_far (p := ⟨gb178, _, none⟩) (by first | exact Nat.ne_of_lt (Nat.lt_of_lt_of_le (by have := World.block_lt_of_cell? _ _ hw176_3; first | rwa [add_block] at this | exact this) GW178.out) | (rw [add_block]; exact Nat.ne_of_lt (Nat.lt_of_lt_of_le (by have := World.block_lt_of_cell? _ _ hw176_3; first | rwa [add_block] at this | exact this) GW178.out)) | (show (Addr.add _ _).block ≠ _; rw [add_block]; exact Nat.ne_of_lt (Nat.lt_of_lt_of_le (by have := World.block_lt_of_cell? _ _ hw176_3; first | rwa [add_block] at this | exact this) GW178.out)) | (dsimp only; exact Nat.ne_of_lt (Nat.lt_of_lt_of_le (by have := World.block_lt_of_cell? _ _ hw176_3; first | rwa [add_block] at this | exact this) GW178.out))) _).trans (((cell_far (p := ⟨gb178, _, none⟩) (by first | exact Nat.ne_of_lt (Nat.lt_of_lt_of_le (by have := World.block_lt_of_cell? _ _ hw176_3; first | rwa [add_block] at this | exact this) GW178.out) | (rw [add_block]; exact Nat.ne_of_lt (Nat.lt_of_lt_of_le (by have := World.block_lt_of_cell? _ _ hw176_3; first | rwa [add_block] at this | exact this) GW178.out)) | (show (Addr.add _ _).block ≠ _; rw [add_block]; exact Nat.ne_of_lt (Nat.lt_of_lt_of_le (by have := World.block_lt_of_cell? _ _ hw176_3; first | rwa [add_block] at this | exact this) GW178.out)) | (dsimp only; exact Nat.ne_of_lt (Nat.lt_of_lt_of_le (by have := World.block_lt_of_cell? _ _ hw176_3; first | rwa [add_block] at this | exact this) GW178.out))) _).trans (((cell_far (p := ⟨gb178, _, none⟩) (by first | exact Nat.ne_of_lt (Nat.lt_of_lt_of_le (by have := World.block_lt_of_cell? _ _ hw176_3; first | rwa [add_block] at this | exact this) GW178.out) | (rw [add_block]; exact Nat.ne_of_lt (Nat.lt_of_lt_of_le (by have := World.block_lt_of_cell? _ _ hw176_3; first | rwa [add_block] at this | exact this) GW178.out)) | (show (Addr.add _ _).block ≠ _; rw [add_block]; exact Nat.ne_of_lt (Nat.lt_of_lt_of_le (by have := World.block_lt_of_cell? _ _ hw176_3; first | rwa [add_block] at this | exact this) GW178.out)) | (dsimp only; exact Nat.ne_of_lt (Nat.lt_of_lt_of_le (by have := World.block_lt_of_cell? _ _ hw176_3; first | rwa [add_block] at this | exact this) GW178.out))) _).trans (hHeld.2.2.2.2.2.2.2))))))))⟩ (fun hHeld => ?_)
     clear hK K
     refine done_ (done_of HT_.out (by kernel_rfl)) ?_
     go_upto_region 2 with (fail)
     go_cut [30] (fun v30 wc => ∃ (kq : Nat) (x30_9 : Bool), v30 = .bool x30_9 ∧ Aside0 (domesdayref10_ahead.j0 kq a0 a3 a4 x30_9 a1_0 a1_1 ((rd_T23 l2 a3).f0) ((rd_T23 l2 a3).f1) ((rd_T23 l2 a3).f2) ((rd_T23 l2 a3).f3) ((rd_T23 l2 a4).f0) ((rd_T23 l2 a4).f1) ((rd_T23 l2 a4).f2) ((rd_T23 l2 a4).f3) = some r) ∧ Aside0 (kq ≤ k) ∧ Aside0 (wc.heap[gb174]? = some (.cells #[.bool a1_0, .bool a1_1] 36 (0, 0))) ∧ Aside0 (wc.heap[gb177]? = some (.cells #[.string ((rd_T23 l2 a3).f0), .int .i64 ((rd_T23 l2 a3).f1), .int .i64 ((rd_T23 l2 a3).f2), .bool ((rd_T23 l2 a3).f3)] 23 (0, 0))) ∧ Aside0 (wc.heap[gb178]? = some (.cells #[.string ((rd_T23 l2 a4).f0), .int .i64 ((rd_T23 l2 a4).f1), .int .i64 ((rd_T23 l2 a4).f2), .bool ((rd_T23 l2 a4).f3)] 23 (0, 0))) ∧ Aside0 (Below w.heap.size w wc))
     case first =>
      have H := HC10.out
      clear HC10
      by_cases c24 : a1_1 = true
      ·subst c24
       have H1 : (domesdayref10_ahead.j0 k a0 a3 a4 (((rd_T23 l2 a3).f3) != ((rd_T23 l2 a4).f3)) a1_0 true ((rd_T23 l2 a3).f0) ((rd_T23 l2 a3).f1) ((rd_T23 l2 a3).f2) ((rd_T23 l2 a3).f3) ((rd_T23 l2 a4).f0) ((rd_T23 l2 a4).f1) ((rd_T23 l2 a4).f2) ((rd_T23 l2 a4).f3)) = some r := by rw [if_pos rfl] at H; exact H
       clear H
       have H := H1
       clear H1
       have H' := Aside0.mk H
       clear H
       have hnb25 := NB174_177.out; have hnc25 := NB177_174.out; have hnb26 := NB174_178.out; have hnc26 := NB178_174.out; have hcz27_0 : w15.cell? ⟨gb174, 0, none⟩ = some (.bool a1_0) := (blk_cell BK174.out 0).trans rfl; have hcz27_1 : w15.cell? ⟨gb174, 1, none⟩ = some (.bool true) := (blk_cell BK174.out 1).trans rfl; have hfz27_0 := blk_frozen BK174.out 0; have hfz27_1 := blk_frozen BK174.out 1; have hnb28 := NB177_178.out; have hnc28 := NB178_177.out; have hcz29_0 : w15.cell? ⟨gb177, 0, none⟩ = some (.string (⟨#[]⟩ : ByteArray)) := (blk_cell BK177.out 0).trans rfl; have hcz29_1 : w15.cell? ⟨gb177, 1, none⟩ = some (.int .i64 0) := (blk_cell BK177.out 1).trans rfl; have hcz29_2 : w15.cell? ⟨gb177, 2, none⟩ = some (.int .i64 0) := (blk_cell BK177.out 2).trans rfl; have hcz29_3 : w15.cell? ⟨gb177, 3, none⟩ = some (.bool false) := (blk_cell BK177.out 3).trans rfl; have hfz29_0 := blk_frozen BK177.out 0; have hfz29_1 := blk_frozen BK177.out 1; have hfz29_2 := blk_frozen BK177.out 2; have hfz29_3 := blk_frozen BK177.out 3; have hcz30_0 : w15.cell? ⟨gb178, 0, none⟩ = some (.string (⟨#[]⟩ : ByteArray)) := (blk_cell BK178.out 0).trans rfl; have hcz30_1 : w15.cell? ⟨gb178, 1, none⟩ = some (.int .i64 0) := (blk_cell BK178.out 1).trans rfl; have hcz30_2 : w15.cell? ⟨gb178, 2, none⟩ = some (.int .i64 0) := (blk_cell BK178.out 2).trans rfl; have hcz30_3 : w15.cell? ⟨gb178, 3, none⟩ = some (.bool false) := (blk_cell BK178.out 3).trans rfl; have hfz30_0 := blk_frozen BK178.out 0; have hfz30_1 := blk_frozen BK178.out 1; have hfz30_2 := blk_frozen BK178.out 2; have hfz30_3 := blk_frozen BK178.out 3
       go_wp2
       go_meet
       case rel => exact ⟨_, ((((rd_T23 l2 a3).f3) != ((rd_T23 l2 a4).f3))), (by first | rfl | (simp; done) | (simp [*]; done)), H', ⟨by first | omega | exact Nat.le_refl _⟩, ⟨by (with_reducible repeat (first | refine blk_drewN ?_ _ | refine blk_drew ?_ | refine blk_alloc ?_ _)); refine blk_far ?_ NB174_178.out _; (with_reducible repeat (first | refine blk_drewN ?_ _ | refine blk_drew ?_ | refine blk_alloc ?_ _)); refine blk_far ?_ NB174_178.out _; (with_reducible repeat (first | refine blk_drewN ?_ _ | refine blk_drew ?_ | refine blk_alloc ?_ _)); refine blk_far ?_ NB174_178.out _; (with_reducible repeat (first | refine blk_drewN ?_ _ | refine blk_drew ?_ | refine blk_alloc ?_ _)); refine blk_far ?_ NB174_178.out _; (with_reducible repeat (first | refine blk_drewN ?_ _ | refine blk_drew ?_ | refine blk_alloc ?_ _)); refine blk_far ?_ NB174_177.out _; (with_reducible repeat (first | refine blk_drewN ?_ _ | refine blk_drew ?_ | refine blk_alloc ?_ _)); refine blk_far ?_ NB174_177.out _; (with_reducible repeat (first | refine blk_drewN ?_ _ | refine blk_drew ?_ | refine blk_alloc ?_ _)); refine blk_far ?_ NB174_177.out _; (with_reducible repeat (first | refine blk_drewN ?_ _ | refine blk_drew ?_ | refine blk_alloc ?_ _)); refine blk_far ?_ NB174_177.out _; (with_reducible repeat (first | refine blk_drewN ?_ _ | refine blk_drew ?_ | refine blk_alloc ?_ _)); exact BK174.out⟩, ⟨by (with_reducible repeat (first | refine blk_drewN ?_ _ | refine blk_drew ?_ | refine blk_alloc ?_ _)); refine blk_far ?_ NB177_178.out _; (with_reducible repeat (first | refine blk_drewN ?_ _ | refine blk_drew ?_ | refine blk_alloc ?_ _)); refine blk_far ?_ NB177_178.out _; (with_reducible repeat (first | refine blk_drewN ?_ _ | refine blk_drew ?_ | refine blk_alloc ?_ _)); refine blk_far ?_ NB177_178.out _; (with_reducible repeat (first | refine blk_drewN ?_ _ | refine blk_drew ?_ | refine blk_alloc ?_ _)); refine blk_far ?_ NB177_178.out _; (with_reducible repeat (first | refine blk_drewN ?_ _ | refine blk_drew ?_ | refine blk_alloc ?_ _)); refine blk_put (cs := #[.string ((rd_T23 l2 a3).f0), .int .i64 ((rd_T23 l2 a3).f1), .int .i64 ((rd_T23 l2 a3).f2), .bool false]) ?_ 3 _ (by first | rfl | (simp; done)); (with_reducible repeat (first | refine blk_drewN ?_ _ | refine blk_drew ?_ | refine blk_alloc ?_ _)); refine blk_put (cs := #[.string ((rd_T23 l2 a3).f0), .int .i64 ((rd_T23 l2 a3).f1), .int .i64 0, .bool false]) ?_ 2 _ (by first | rfl | (simp; done)); (with_reducible repeat (first | refine blk_drewN ?_ _ | refine blk_drew ?_ | refine blk_alloc ?_ _)); refine blk_put (cs := #[.string ((rd_T23 l2 a3).f0), .int .i64 0, .int .i64 0, .bool false]) ?_ 1 _ (by first | rfl | (simp; done)); (with_reducible repeat (first | refine blk_drewN ?_ _ | refine blk_drew ?_ | refine blk_alloc ?_ _)); refine blk_put (cs := #[.string (⟨#[]⟩ : ByteArray), .int .i64 0, .int .i64 0, .bool false]) ?_ 0 _ (by first | rfl | (simp; done)); (with_reducible repeat (first | refine blk_drewN ?_ _ | refine blk_drew ?_ | refine blk_alloc ?_ _)); exact BK177.out⟩, ⟨by (with_reducible repeat (first | refine blk_drewN ?_ _ | refine blk_drew ?_ | refine blk_alloc ?_ _)); refine blk_put (cs := #[.string ((rd_T23 l2 a4).f0), .int .i64 ((rd_T23 l2 a4).f1), .int .i64 ((rd_T23 l2 a4).f2), .bool false]) ?_ 3 _ (by first | rfl | (simp; done)); (with_reducible repeat (first | refine blk_drewN ?_ _ | refine blk_drew ?_ | refine blk_alloc ?_ _)); refine blk_put (cs := #[.string ((rd_T23 l2 a4).f0), .int .i64 ((rd_T23 l2 a4).f1), .int .i64 0, .bool false]) ?_ 2 _ (by first | rfl | (simp; done)); (with_reducible repeat (first | refine blk_drewN ?_ _ | refine blk_drew ?_ | refine blk_alloc ?_ _)); refine blk_put (cs := #[.string ((rd_T23 l2 a4).f0), .int .i64 0, .int .i64 0, .bool false]) ?_ 1 _ (by first | rfl | (simp; done)); (with_reducible repeat (first | refine blk_drewN ?_ _ | refine blk_drew ?_ | refine blk_alloc ?_ _)); refine blk_put (cs := #[.string (⟨#[]⟩ : ByteArray), .int .i64 0, .int .i64 0, .bool false]) ?_ 0 _ (by first | rfl | (simp; done)); (with_reducible repeat (first | refine blk_drewN ?_ _ | refine blk_drew ?_ | refine blk_alloc ?_ _)); refine blk_far ?_ NB178_177.out _; (with_reducible repeat (first | refine blk_drewN ?_ _ | refine blk_drew ?_ | refine blk_alloc ?_ _)); refine blk_far ?_ NB178_177.out _; (with_reducible repeat (first | refine blk_drewN ?_ _ | refine blk_drew ?_ | refine blk_alloc ?_ _)); refine blk_far ?_ NB178_177.out _; (with_reducible repeat (first | refine blk_drewN ?_ _ | refine blk_drew ?_ | refine blk_alloc ?_ _)); refine blk_far ?_ NB178_177.out _; (with_reducible repeat (first | refine blk_drewN ?_ _ | refine blk_drew ?_ | refine blk_alloc ?_ _)); exact BK178.out⟩, ⟨by repeat (first | (with_reducible first | exact HB.out | apply below_alloc | apply pw_below_drewN | apply below_drew1 | refine below_set ?_ GE174.out | refine below_set ?_ GE177.out | refine below_set ?_ GE178.out) | exact HB.out)⟩⟩
      ·replace c24 := Bool.eq_false_iff.mpr c24
       subst c24
       have H1 : (domesdayref10_ahead.j0 k a0 a3 a4 false a1_0 false ((rd_T23 l2 a3).f0) ((rd_T23 l2 a3).f1) ((rd_T23 l2 a3).f2) ((rd_T23 l2 a3).f3) ((rd_T23 l2 a4).f0) ((rd_T23 l2 a4).f1) ((rd_T23 l2 a4).f2) ((rd_T23 l2 a4).f3)) = some r := by rw [if_neg (show ¬ (false = true) by decide)] at H; exact H
       clear H
       have H := H1
       clear H1
       have H' := Aside0.mk H
       clear H
       have hnb31 := NB174_177.out; have hnc31 := NB177_174.out; have hnb32 := NB174_178.out; have hnc32 := NB178_174.out; have hcz33_0 : w15.cell? ⟨gb174, 0, none⟩ = some (.bool a1_0) := (blk_cell BK174.out 0).trans rfl; have hcz33_1 : w15.cell? ⟨gb174, 1, none⟩ = some (.bool false) := (blk_cell BK174.out 1).trans rfl; have hfz33_0 := blk_frozen BK174.out 0; have hfz33_1 := blk_frozen BK174.out 1
       go_wp2
       go_meet
       case rel => exact ⟨_, (false), (by first | rfl | (simp; done) | (simp [*]; done)), H', ⟨by first | omega | exact Nat.le_refl _⟩, ⟨by (with_reducible repeat (first | refine blk_drewN ?_ _ | refine blk_drew ?_ | refine blk_alloc ?_ _)); refine blk_far ?_ NB174_178.out _; (with_reducible repeat (first | refine blk_drewN ?_ _ | refine blk_drew ?_ | refine blk_alloc ?_ _)); refine blk_far ?_ NB174_178.out _; (with_reducible repeat (first | refine blk_drewN ?_ _ | refine blk_drew ?_ | refine blk_alloc ?_ _)); refine blk_far ?_ NB174_178.out _; (with_reducible repeat (first | refine blk_drewN ?_ _ | refine blk_drew ?_ | refine blk_alloc ?_ _)); refine blk_far ?_ NB174_178.out _; (with_reducible repeat (first | refine blk_drewN ?_ _ | refine blk_drew ?_ | refine blk_alloc ?_ _)); refine blk_far ?_ NB174_177.out _; (with_reducible repeat (first | refine blk_drewN ?_ _ | refine blk_drew ?_ | refine blk_alloc ?_ _)); refine blk_far ?_ NB174_177.out _; (with_reducible repeat (first | refine blk_drewN ?_ _ | refine blk_drew ?_ | refine blk_alloc ?_ _)); refine blk_far ?_ NB174_177.out _; (with_reducible repeat (first | refine blk_drewN ?_ _ | refine blk_drew ?_ | refine blk_alloc ?_ _)); refine blk_far ?_ NB174_177.out _; (with_reducible repeat (first | refine blk_drewN ?_ _ | refine blk_drew ?_ | refine blk_alloc ?_ _)); exact BK174.out⟩, ⟨by (with_reducible repeat (first | refine blk_drewN ?_ _ | refine blk_drew ?_ | refine blk_alloc ?_ _)); refine blk_far ?_ NB177_178.out _; (with_reducible repeat (first | refine blk_drewN ?_ _ | refine blk_drew ?_ | refine blk_alloc ?_ _)); refine blk_far ?_ NB177_178.out _; (with_reducible repeat (first | refine blk_drewN ?_ _ | refine blk_drew ?_ | refine blk_alloc ?_ _)); refine blk_far ?_ NB177_178.out _; (with_reducible repeat (first | refine blk_drewN ?_ _ | refine blk_drew ?_ | refine blk_alloc ?_ _)); refine blk_far ?_ NB177_178.out _; (with_reducible repeat (first | refine blk_drewN ?_ _ | refine blk_drew ?_ | refine blk_alloc ?_ _)); refine blk_put (cs := #[.string ((rd_T23 l2 a3).f0), .int .i64 ((rd_T23 l2 a3).f1), .int .i64 ((rd_T23 l2 a3).f2), .bool false]) ?_ 3 _ (by first | rfl | (simp; done)); (with_reducible repeat (first | refine blk_drewN ?_ _ | refine blk_drew ?_ | refine blk_alloc ?_ _)); refine blk_put (cs := #[.string ((rd_T23 l2 a3).f0), .int .i64 ((rd_T23 l2 a3).f1), .int .i64 0, .bool false]) ?_ 2 _ (by first | rfl | (simp; done)); (with_reducible repeat (first | refine blk_drewN ?_ _ | refine blk_drew ?_ | refine blk_alloc ?_ _)); refine blk_put (cs := #[.string ((rd_T23 l2 a3).f0), .int .i64 0, .int .i64 0, .bool false]) ?_ 1 _ (by first | rfl | (simp; done)); (with_reducible repeat (first | refine blk_drewN ?_ _ | refine blk_drew ?_ | refine blk_alloc ?_ _)); refine blk_put (cs := #[.string (⟨#[]⟩ : ByteArray), .int .i64 0, .int .i64 0, .bool false]) ?_ 0 _ (by first | rfl | (simp; done)); (with_reducible repeat (first | refine blk_drewN ?_ _ | refine blk_drew ?_ | refine blk_alloc ?_ _)); exact BK177.out⟩, ⟨by (with_reducible repeat (first | refine blk_drewN ?_ _ | refine blk_drew ?_ | refine blk_alloc ?_ _)); refine blk_put (cs := #[.string ((rd_T23 l2 a4).f0), .int .i64 ((rd_T23 l2 a4).f1), .int .i64 ((rd_T23 l2 a4).f2), .bool false]) ?_ 3 _ (by first | rfl | (simp; done)); (with_reducible repeat (first | refine blk_drewN ?_ _ | refine blk_drew ?_ | refine blk_alloc ?_ _)); refine blk_put (cs := #[.string ((rd_T23 l2 a4).f0), .int .i64 ((rd_T23 l2 a4).f1), .int .i64 0, .bool false]) ?_ 2 _ (by first | rfl | (simp; done)); (with_reducible repeat (first | refine blk_drewN ?_ _ | refine blk_drew ?_ | refine blk_alloc ?_ _)); refine blk_put (cs := #[.string ((rd_T23 l2 a4).f0), .int .i64 0, .int .i64 0, .bool false]) ?_ 1 _ (by first | rfl | (simp; done)); (with_reducible repeat (first | refine blk_drewN ?_ _ | refine blk_drew ?_ | refine blk_alloc ?_ _)); refine blk_put (cs := #[.string (⟨#[]⟩ : ByteArray), .int .i64 0, .int .i64 0, .bool false]) ?_ 0 _ (by first | rfl | (simp; done)); (with_reducible repeat (first | refine blk_drewN ?_ _ | refine blk_drew ?_ | refine blk_alloc ?_ _)); refine blk_far ?_ NB178_177.out _; (with_reducible repeat (first | refine blk_drewN ?_ _ | refine blk_drew ?_ | refine blk_alloc ?_ _)); refine blk_far ?_ NB178_177.out _; (with_reducible repeat (first | refine blk_drewN ?_ _ | refine blk_drew ?_ | refine blk_alloc ?_ _)); refine blk_far ?_ NB178_177.out _; (with_reducible repeat (first | refine blk_drewN ?_ _ | refine blk_drew ?_ | refine blk_alloc ?_ _)); refine blk_far ?_ NB178_177.out _; (with_reducible repeat (first | refine blk_drewN ?_ _ | refine blk_drew ?_ | refine blk_alloc ?_ _)); exact BK178.out⟩, ⟨by repeat (first | (with_reducible first | exact HB.out | apply below_alloc | apply pw_below_drewN | apply below_drew1 | refine below_set ?_ GE174.out | refine below_set ?_ GE177.out | refine below_set ?_ GE178.out) | exact HB.out)⟩⟩
     case rest =>
      clear HC10
      (try clear p1); (try clear q1); (try clear hx1); (try clear c2); (try clear p2); (try clear c3); (try clear c6); (try clear c6b0); (try clear c7); (try clear c7b0); (try clear c8); (try clear c8b0); (try clear c9); (try clear c9b0); (try clear p17); (try clear q17); (try clear hx17); (try clear c24); (try clear c25); (try clear c26); (try clear c28); (try clear c30); (try clear c31); (try clear c32); (try clear hcz27_0); (try clear hcz27_1); (try clear hcz29_0); (try clear hcz29_1); (try clear hcz29_2); (try clear hcz29_3); (try clear hcz30_0); (try clear hcz30_1); (try clear hcz30_2); (try clear hcz30_3); (try clear hcz33_0); (try clear hcz33_1); (try clear hfz27_0); (try clear hfz27_1); (try clear hfz29_0); (try clear hfz29_1); (try clear hfz29_2); (try clear hfz29_3); (try clear hfz30_0); (try clear hfz30_1); (try clear hfz30_2); (try clear hfz30_3); (try clear hfz33_0); (try clear hfz33_1); (try clear hx175_0); (try clear hx175_1); (try clear hx175_2); (try clear hx175_3); (try clear hx176_0); (try clear hx176_1); (try clear hx176_2); (try clear hx176_3); (try clear p175); (try clear p176); (try clear q175); (try clear q176)
      obtain ⟨kq, x30_9, rfl, HA, HJ9, BK174, BK177, BK178, HB⟩ := hcut
      cases kq with
      | zero => exact absurd HA.out (by simp [domesdayref10_ahead.j0])
      | succ kj9 =>
       have H := HA.out
       clear HA
       simp only [domesdayref10_ahead.j0] at H
       by_cases c34 : x30_9 = true
       ·subst c34
        have H1 : (some ((rd_T23 l2 a3).f3)) = some r := by rw [if_pos rfl] at H; exact H
        clear H
        have H := H1
        clear H1
        obtain rfl := Option.some.inj H
        have hnb35 := NB177_174.out; have hnc35 := NB174_177.out; have hnb36 := NB177_178.out; have hnc36 := NB178_177.out; have hcz37_0 : wc.cell? ⟨gb177, 0, none⟩ = some (.string ((rd_T23 l2 a3).f0)) := (blk_cell BK177.out 0).trans rfl; have hcz37_1 : wc.cell? ⟨gb177, 1, none⟩ = some (.int .i64 ((rd_T23 l2 a3).f1)) := (blk_cell BK177.out 1).trans rfl; have hcz37_2 : wc.cell? ⟨gb177, 2, none⟩ = some (.int .i64 ((rd_T23 l2 a3).f2)) := (blk_cell BK177.out 2).trans rfl; have hcz37_3 : wc.cell? ⟨gb177, 3, none⟩ = some (.bool ((rd_T23 l2 a3).f3)) := (blk_cell BK177.out 3).trans rfl; have hfz37_0 := blk_frozen BK177.out 0; have hfz37_1 := blk_frozen BK177.out 1; have hfz37_2 := blk_frozen BK177.out 2; have hfz37_3 := blk_frozen BK177.out 3
        go_wp2
        go_ret
        exact ⟨by first | rfl | (simp [errW_none, errW_some] <;> rfl) | (simp [*, errW_none, errW_some] <;> rfl), by repeat (first | (with_reducible first | exact HB.out | apply below_alloc | apply pw_below_drewN | apply below_drew1 | refine below_set ?_ GE174.out | refine below_set ?_ GE177.out | refine below_set ?_ GE178.out) | exact HB.out)⟩
       ·replace c34 := Bool.eq_false_iff.mpr c34
        subst c34
        have H1 : ((domesdayref10_Compare.f kj9 a0 ((rd_T23 l2 a3).f0) ((rd_T23 l2 a3).f1) ((rd_T23 l2 a3).f2) ((rd_T23 l2 a3).f3) ((rd_T23 l2 a4).f0) ((rd_T23 l2 a4).f1) ((rd_T23 l2 a4).f2) ((rd_T23 l2 a4).f3)).bind fun t179 => (if a1_0 = true then (if (wrap64 (-t179)) < 0 then (some true) else (if (wrap64 (-t179)) = 0 then (some (decide (a3 < a4))) else (some false))) else (if t179 < 0 then (some true) else (if t179 = 0 then (some (decide (a3 < a4))) else (some false))))) = some r := by rw [if_neg (show ¬ (false = true) by decide)] at H; exact H
        clear H
        have H := H1
        clear H1
        replace H := Option.bind_eq_some_iff.mp H
        obtain ⟨t179, A380, H⟩ := H
        replace H : (if a1_0 = true then (if (wrap64 (-t179)) < 0 then (some true) else (if (wrap64 (-t179)) = 0 then (some (decide (a3 < a4))) else (some false))) else (if t179 < 0 then (some true) else (if t179 = 0 then (some (decide (a3 < a4))) else (some false)))) = some r := H
        have A38 := Aside0.mk A380
        clear A380
        by_cases c39 : a1_0 = true
        ·subst c39
         have H1 : (if (wrap64 (-t179)) < 0 then (some true) else (if (wrap64 (-t179)) = 0 then (some (decide (a3 < a4))) else (some false))) = some r := by rw [if_pos rfl] at H; exact H
         clear H
         have H := H1
         clear H1
         by_cases c40 : (wrap64 (-t179)) < 0
         ·rw [if_pos c40] at H
          have c40b0 : decide ((wrap64 (-t179)) < 0) = true := decide_eq_true c40
          clear c40
          obtain rfl := Option.some.inj H
          have hnb41 := NB177_174.out; have hnc41 := NB174_177.out; have hnb42 := NB177_178.out; have hnc42 := NB178_177.out; have hcz43_0 : wc.cell? ⟨gb177, 0, none⟩ = some (.string ((rd_T23 l2 a3).f0)) := (blk_cell BK177.out 0).trans rfl; have hcz43_1 : wc.cell? ⟨gb177, 1, none⟩ = some (.int .i64 ((rd_T23 l2 a3).f1)) := (blk_cell BK177.out 1).trans rfl; have hcz43_2 : wc.cell? ⟨gb177, 2, none⟩ = some (.int .i64 ((rd_T23 l2 a3).f2)) := (blk_cell BK177.out 2).trans rfl; have hcz43_3 : wc.cell? ⟨gb177, 3, none⟩ = some (.bool ((rd_T23 l2 a3).f3)) := (blk_cell BK177.out 3).trans rfl; have hfz43_0 := blk_frozen BK177.out 0; have hfz43_1 := blk_frozen BK177.out 1; have hfz43_2 := blk_frozen BK177.out 2; have hfz43_3 := blk_frozen BK177.out 3; have hnb44 := NB178_174.out; have hnc44 := NB174_178.out; have hcz45_0 : wc.cell? ⟨gb178, 0, none⟩ = some (.string ((rd_T23 l2 a4).f0)) := (blk_cell BK178.out 0).trans rfl; have hcz45_1 : wc.cell? ⟨gb178, 1, none⟩ = some (.int .i64 ((rd_T23 l2 a4).f1)) := (blk_cell BK178.out 1).trans rfl; have hcz45_2 : wc.cell? ⟨gb178, 2, none⟩ = some (.int .i64 ((rd_T23 l2 a4).f2)) := (blk_cell BK178.out 2).trans rfl; have hcz45_3 : wc.cell? ⟨gb178, 3, none⟩ = some (.bool ((rd_T23 l2 a4).f3)) := (blk_cell BK178.out 3).trans rfl; have hfz45_0 := blk_frozen BK178.out 0; have hfz45_1 := blk_frozen BK178.out 1; have hfz45_2 := blk_frozen BK178.out 2; have hfz45_3 := blk_frozen BK178.out 3
          go_wp2_with (first | ((with_reducible refine gate_callee (f := 11) rfl ?_); refine goesL_ (some 36) rfl rfl Tryd.func11 (by kernel_rfl) rfl #[.int .i64 a0, .agg #[.string ((rd_T23 l2 a3).f0), .int .i64 ((rd_T23 l2 a3).f1), .int .i64 ((rd_T23 l2 a3).f2), .bool ((rd_T23 l2 a3).f3)], .agg #[.string ((rd_T23 l2 a4).f0), .int .i64 ((rd_T23 l2 a4).f1), .int .i64 ((rd_T23 l2 a4).f2), .bool ((rd_T23 l2 a4).f3)]] rfl (by (try simp only [List.map_toArray, List.map_cons, List.map_nil]); first | done | rfl | (simp only [List.length_drop, List.length_take]; rfl)) ?_; (with_reducible refine (domesdayref10_Compare.calls kj9 a0 ((rd_T23 l2 a3).f0) ((rd_T23 l2 a3).f1) ((rd_T23 l2 a3).f2) ((rd_T23 l2 a3).f3) ((rd_T23 l2 a4).f0) ((rd_T23 l2 a4).f1) ((rd_T23 l2 a4).f2) ((rd_T23 l2 a4).f3) t179 _ A38.out).mono ?_); rintro e w46 ⟨rfl, hb⟩; refine ⟨_, rfl, ?_⟩; have n0_ := Aside0.mk (blk_below (g := gb174) (o := .cells #[.bool true, .bool a1_1] 36 (0, 0)) (by (with_reducible repeat (first | refine blk_drewN ?_ _ | refine blk_drew ?_ | refine blk_alloc ?_ _)); exact BK174.out) hb); have n1_ := Aside0.mk (blk_below (g := gb177) (o := .cells #[.string ((rd_T23 l2 a3).f0), .int .i64 ((rd_T23 l2 a3).f1), .int .i64 ((rd_T23 l2 a3).f2), .bool ((rd_T23 l2 a3).f3)] 23 (0, 0)) (by (with_reducible repeat (first | refine blk_drewN ?_ _ | refine blk_drew ?_ | refine blk_alloc ?_ _)); exact BK177.out) hb); have n2_ := Aside0.mk (blk_below (g := gb178) (o := .cells #[.string ((rd_T23 l2 a4).f0), .int .i64 ((rd_T23 l2 a4).f1), .int .i64 ((rd_T23 l2 a4).f2), .bool ((rd_T23 l2 a4).f3)] 23 (0, 0)) (by (with_reducible repeat (first | refine blk_drewN ?_ _ | refine blk_drew ?_ | refine blk_alloc ?_ _)); exact BK178.out) hb); have n3_ := Aside0.mk (below_step (by repeat (first | (with_reducible first | exact HB.out | apply below_alloc | apply pw_below_drewN | apply below_drew1 | refine below_set ?_ GE174.out | refine below_set ?_ GE177.out | refine below_set ?_ GE178.out) | exact HB.out)) hb); clear BK174; clear BK177; clear BK178; clear HB; have BK174 := n0_; have BK177 := n1_; have BK178 := n2_; have HB := n3_; clear n0_ n1_ n2_ n3_; (try clear hb); (try clear hb2); (try clear hk); (try clear hi); have hcz47_0 : w46.cell? ⟨gb174, 0, none⟩ = some (.bool true) := (blk_cell BK174.out 0).trans rfl; have hcz47_1 : w46.cell? ⟨gb174, 1, none⟩ = some (.bool a1_1) := (blk_cell BK174.out 1).trans rfl; have hfz47_0 := blk_frozen BK174.out 0; have hfz47_1 := blk_frozen BK174.out 1))
          go_ret
          exact ⟨by first | rfl | (simp [errW_none, errW_some] <;> rfl) | (simp [*, errW_none, errW_some] <;> rfl), by repeat (first | (with_reducible first | exact HB.out | apply below_alloc | apply pw_below_drewN | apply below_drew1 | refine below_set ?_ GE174.out | refine below_set ?_ GE177.out | refine below_set ?_ GE178.out) | exact HB.out)⟩
         ·rw [if_neg c40] at H
          have c40b0 : decide ((wrap64 (-t179)) < 0) = false := decide_eq_false c40
          clear c40
          by_cases c48 : (wrap64 (-t179)) = 0
          ·rw [if_pos c48] at H
           have c48b0 : ((wrap64 (-t179)) == 0) = true := beq_iff_eq.mpr c48
           have c48b1 : ((wrap64 (-t179)) != 0) = false := bne_eq_false_iff_eq.mpr c48
           clear c48
           obtain rfl := Option.some.inj H
           have hnb49 := NB177_174.out; have hnc49 := NB174_177.out; have hnb50 := NB177_178.out; have hnc50 := NB178_177.out; have hcz51_0 : wc.cell? ⟨gb177, 0, none⟩ = some (.string ((rd_T23 l2 a3).f0)) := (blk_cell BK177.out 0).trans rfl; have hcz51_1 : wc.cell? ⟨gb177, 1, none⟩ = some (.int .i64 ((rd_T23 l2 a3).f1)) := (blk_cell BK177.out 1).trans rfl; have hcz51_2 : wc.cell? ⟨gb177, 2, none⟩ = some (.int .i64 ((rd_T23 l2 a3).f2)) := (blk_cell BK177.out 2).trans rfl; have hcz51_3 : wc.cell? ⟨gb177, 3, none⟩ = some (.bool ((rd_T23 l2 a3).f3)) := (blk_cell BK177.out 3).trans rfl; have hfz51_0 := blk_frozen BK177.out 0; have hfz51_1 := blk_frozen BK177.out 1; have hfz51_2 := blk_frozen BK177.out 2; have hfz51_3 := blk_frozen BK177.out 3; have hnb52 := NB178_174.out; have hnc52 := NB174_178.out; have hcz53_0 : wc.cell? ⟨gb178, 0, none⟩ = some (.string ((rd_T23 l2 a4).f0)) := (blk_cell BK178.out 0).trans rfl; have hcz53_1 : wc.cell? ⟨gb178, 1, none⟩ = some (.int .i64 ((rd_T23 l2 a4).f1)) := (blk_cell BK178.out 1).trans rfl; have hcz53_2 : wc.cell? ⟨gb178, 2, none⟩ = some (.int .i64 ((rd_T23 l2 a4).f2)) := (blk_cell BK178.out 2).trans rfl; have hcz53_3 : wc.cell? ⟨gb178, 3, none⟩ = some (.bool ((rd_T23 l2 a4).f3)) := (blk_cell BK178.out 3).trans rfl; have hfz53_0 := blk_frozen BK178.out 0; have hfz53_1 := blk_frozen BK178.out 1; have hfz53_2 := blk_frozen BK178.out 2; have hfz53_3 := blk_frozen BK178.out 3
           go_wp2_with (first | ((with_reducible refine gate_callee (f := 11) rfl ?_); refine goesL_ (some 36) rfl rfl Tryd.func11 (by kernel_rfl) rfl #[.int .i64 a0, .agg #[.string ((rd_T23 l2 a3).f0), .int .i64 ((rd_T23 l2 a3).f1), .int .i64 ((rd_T23 l2 a3).f2), .bool ((rd_T23 l2 a3).f3)], .agg #[.string ((rd_T23 l2 a4).f0), .int .i64 ((rd_T23 l2 a4).f1), .int .i64 ((rd_T23 l2 a4).f2), .bool ((rd_T23 l2 a4).f3)]] rfl (by (try simp only [List.map_toArray, List.map_cons, List.map_nil]); first | done | rfl | (simp only [List.length_drop, List.length_take]; rfl)) ?_; (with_reducible refine (domesdayref10_Compare.calls kj9 a0 ((rd_T23 l2 a3).f0) ((rd_T23 l2 a3).f1) ((rd_T23 l2 a3).f2) ((rd_T23 l2 a3).f3) ((rd_T23 l2 a4).f0) ((rd_T23 l2 a4).f1) ((rd_T23 l2 a4).f2) ((rd_T23 l2 a4).f3) t179 _ A38.out).mono ?_); rintro e w54 ⟨rfl, hb⟩; refine ⟨_, rfl, ?_⟩; have n0_ := Aside0.mk (blk_below (g := gb174) (o := .cells #[.bool true, .bool a1_1] 36 (0, 0)) (by (with_reducible repeat (first | refine blk_drewN ?_ _ | refine blk_drew ?_ | refine blk_alloc ?_ _)); exact BK174.out) hb); have n1_ := Aside0.mk (blk_below (g := gb177) (o := .cells #[.string ((rd_T23 l2 a3).f0), .int .i64 ((rd_T23 l2 a3).f1), .int .i64 ((rd_T23 l2 a3).f2), .bool ((rd_T23 l2 a3).f3)] 23 (0, 0)) (by (with_reducible repeat (first | refine blk_drewN ?_ _ | refine blk_drew ?_ | refine blk_alloc ?_ _)); exact BK177.out) hb); have n2_ := Aside0.mk (blk_below (g := gb178) (o := .cells #[.string ((rd_T23 l2 a4).f0), .int .i64 ((rd_T23 l2 a4).f1), .int .i64 ((rd_T23 l2 a4).f2), .bool ((rd_T23 l2 a4).f3)] 23 (0, 0)) (by (with_reducible repeat (first | refine blk_drewN ?_ _ | refine blk_drew ?_ | refine blk_alloc ?_ _)); exact BK178.out) hb); have n3_ := Aside0.mk (below_step (by repeat (first | (with_reducible first | exact HB.out | apply below_alloc | apply pw_below_drewN | apply below_drew1 | refine below_set ?_ GE174.out | refine below_set ?_ GE177.out | refine below_set ?_ GE178.out) | exact HB.out)) hb); clear BK174; clear BK177; clear BK178; clear HB; have BK174 := n0_; have BK177 := n1_; have BK178 := n2_; have HB := n3_; clear n0_ n1_ n2_ n3_; (try clear hb); (try clear hb2); (try clear hk); (try clear hi); have hcz55_0 : w54.cell? ⟨gb174, 0, none⟩ = some (.bool true) := (blk_cell BK174.out 0).trans rfl; have hcz55_1 : w54.cell? ⟨gb174, 1, none⟩ = some (.bool a1_1) := (blk_cell BK174.out 1).trans rfl; have hfz55_0 := blk_frozen BK174.out 0; have hfz55_1 := blk_frozen BK174.out 1))
           go_ret
           exact ⟨by first | rfl | (simp [errW_none, errW_some] <;> rfl) | (simp [*, errW_none, errW_some] <;> rfl), by repeat (first | (with_reducible first | exact HB.out | apply below_alloc | apply pw_below_drewN | apply below_drew1 | refine below_set ?_ GE174.out | refine below_set ?_ GE177.out | refine below_set ?_ GE178.out) | exact HB.out)⟩
          ·rw [if_neg c48] at H
           have c48b0 : ((wrap64 (-t179)) == 0) = false := beq_eq_false_iff_ne.mpr c48
           have c48b1 : ((wrap64 (-t179)) != 0) = true := bne_iff_ne.mpr c48
           obtain rfl := Option.some.inj H
           have hnb56 := NB177_174.out; have hnc56 := NB174_177.out; have hnb57 := NB177_178.out; have hnc57 := NB178_177.out; have hcz58_0 : wc.cell? ⟨gb177, 0, none⟩ = some (.string ((rd_T23 l2 a3).f0)) := (blk_cell BK177.out 0).trans rfl; have hcz58_1 : wc.cell? ⟨gb177, 1, none⟩ = some (.int .i64 ((rd_T23 l2 a3).f1)) := (blk_cell BK177.out 1).trans rfl; have hcz58_2 : wc.cell? ⟨gb177, 2, none⟩ = some (.int .i64 ((rd_T23 l2 a3).f2)) := (blk_cell BK177.out 2).trans rfl; have hcz58_3 : wc.cell? ⟨gb177, 3, none⟩ = some (.bool ((rd_T23 l2 a3).f3)) := (blk_cell BK177.out 3).trans rfl; have hfz58_0 := blk_frozen BK177.out 0; have hfz58_1 := blk_frozen BK177.out 1; have hfz58_2 := blk_frozen BK177.out 2; have hfz58_3 := blk_frozen BK177.out 3; have hnb59 := NB178_174.out; have hnc59 := NB174_178.out; have hcz60_0 : wc.cell? ⟨gb178, 0, none⟩ = some (.string ((rd_T23 l2 a4).f0)) := (blk_cell BK178.out 0).trans rfl; have hcz60_1 : wc.cell? ⟨gb178, 1, none⟩ = some (.int .i64 ((rd_T23 l2 a4).f1)) := (blk_cell BK178.out 1).trans rfl; have hcz60_2 : wc.cell? ⟨gb178, 2, none⟩ = some (.int .i64 ((rd_T23 l2 a4).f2)) := (blk_cell BK178.out 2).trans rfl; have hcz60_3 : wc.cell? ⟨gb178, 3, none⟩ = some (.bool ((rd_T23 l2 a4).f3)) := (blk_cell BK178.out 3).trans rfl; have hfz60_0 := blk_frozen BK178.out 0; have hfz60_1 := blk_frozen BK178.out 1; have hfz60_2 := blk_frozen BK178.out 2; have hfz60_3 := blk_frozen BK178.out 3
           go_wp2_with (first | ((with_reducible refine gate_callee (f := 11) rfl ?_); refine goesL_ (some 36) rfl rfl Tryd.func11 (by kernel_rfl) rfl #[.int .i64 a0, .agg #[.string ((rd_T23 l2 a3).f0), .int .i64 ((rd_T23 l2 a3).f1), .int .i64 ((rd_T23 l2 a3).f2), .bool ((rd_T23 l2 a3).f3)], .agg #[.string ((rd_T23 l2 a4).f0), .int .i64 ((rd_T23 l2 a4).f1), .int .i64 ((rd_T23 l2 a4).f2), .bool ((rd_T23 l2 a4).f3)]] rfl (by (try simp only [List.map_toArray, List.map_cons, List.map_nil]); first | done | rfl | (simp only [List.length_drop, List.length_take]; rfl)) ?_; (with_reducible refine (domesdayref10_Compare.calls kj9 a0 ((rd_T23 l2 a3).f0) ((rd_T23 l2 a3).f1) ((rd_T23 l2 a3).f2) ((rd_T23 l2 a3).f3) ((rd_T23 l2 a4).f0) ((rd_T23 l2 a4).f1) ((rd_T23 l2 a4).f2) ((rd_T23 l2 a4).f3) t179 _ A38.out).mono ?_); rintro e w61 ⟨rfl, hb⟩; refine ⟨_, rfl, ?_⟩; have n0_ := Aside0.mk (blk_below (g := gb174) (o := .cells #[.bool true, .bool a1_1] 36 (0, 0)) (by (with_reducible repeat (first | refine blk_drewN ?_ _ | refine blk_drew ?_ | refine blk_alloc ?_ _)); exact BK174.out) hb); have n1_ := Aside0.mk (blk_below (g := gb177) (o := .cells #[.string ((rd_T23 l2 a3).f0), .int .i64 ((rd_T23 l2 a3).f1), .int .i64 ((rd_T23 l2 a3).f2), .bool ((rd_T23 l2 a3).f3)] 23 (0, 0)) (by (with_reducible repeat (first | refine blk_drewN ?_ _ | refine blk_drew ?_ | refine blk_alloc ?_ _)); exact BK177.out) hb); have n2_ := Aside0.mk (blk_below (g := gb178) (o := .cells #[.string ((rd_T23 l2 a4).f0), .int .i64 ((rd_T23 l2 a4).f1), .int .i64 ((rd_T23 l2 a4).f2), .bool ((rd_T23 l2 a4).f3)] 23 (0, 0)) (by (with_reducible repeat (first | refine blk_drewN ?_ _ | refine blk_drew ?_ | refine blk_alloc ?_ _)); exact BK178.out) hb); have n3_ := Aside0.mk (below_step (by repeat (first | (with_reducible first | exact HB.out | apply below_alloc | apply pw_below_drewN | apply below_drew1 | refine below_set ?_ GE174.out | refine below_set ?_ GE177.out | refine below_set ?_ GE178.out) | exact HB.out)) hb); clear BK174; clear BK177; clear BK178; clear HB; have BK174 := n0_; have BK177 := n1_; have BK178 := n2_; have HB := n3_; clear n0_ n1_ n2_ n3_; (try clear hb); (try clear hb2); (try clear hk); (try clear hi); have hcz62_0 : w61.cell? ⟨gb174, 0, none⟩ = some (.bool true) := (blk_cell BK174.out 0).trans rfl; have hcz62_1 : w61.cell? ⟨gb174, 1, none⟩ = some (.bool a1_1) := (blk_cell BK174.out 1).trans rfl; have hfz62_0 := blk_frozen BK174.out 0; have hfz62_1 := blk_frozen BK174.out 1))
           go_ret
           exact ⟨by first | rfl | (simp [errW_none, errW_some] <;> rfl) | (simp [*, errW_none, errW_some] <;> rfl), by repeat (first | (with_reducible first | exact HB.out | apply below_alloc | apply pw_below_drewN | apply below_drew1 | refine below_set ?_ GE174.out | refine below_set ?_ GE177.out | refine below_set ?_ GE178.out) | exact HB.out)⟩
        ·replace c39 := Bool.eq_false_iff.mpr c39
         subst c39
         have H1 : (if t179 < 0 then (some true) else (if t179 = 0 then (some (decide (a3 < a4))) else (some false))) = some r := by rw [if_neg (show ¬ (false = true) by decide)] at H; exact H
         clear H
         have H := H1
         clear H1
         by_cases c63 : t179 < 0
         ·rw [if_pos c63] at H
          have c63b0 : decide (t179 < 0) = true := decide_eq_true c63
          clear c63
          obtain rfl := Option.some.inj H
          have hnb64 := NB177_174.out; have hnc64 := NB174_177.out; have hnb65 := NB177_178.out; have hnc65 := NB178_177.out; have hcz66_0 : wc.cell? ⟨gb177, 0, none⟩ = some (.string ((rd_T23 l2 a3).f0)) := (blk_cell BK177.out 0).trans rfl; have hcz66_1 : wc.cell? ⟨gb177, 1, none⟩ = some (.int .i64 ((rd_T23 l2 a3).f1)) := (blk_cell BK177.out 1).trans rfl; have hcz66_2 : wc.cell? ⟨gb177, 2, none⟩ = some (.int .i64 ((rd_T23 l2 a3).f2)) := (blk_cell BK177.out 2).trans rfl; have hcz66_3 : wc.cell? ⟨gb177, 3, none⟩ = some (.bool ((rd_T23 l2 a3).f3)) := (blk_cell BK177.out 3).trans rfl; have hfz66_0 := blk_frozen BK177.out 0; have hfz66_1 := blk_frozen BK177.out 1; have hfz66_2 := blk_frozen BK177.out 2; have hfz66_3 := blk_frozen BK177.out 3; have hnb67 := NB178_174.out; have hnc67 := NB174_178.out; have hcz68_0 : wc.cell? ⟨gb178, 0, none⟩ = some (.string ((rd_T23 l2 a4).f0)) := (blk_cell BK178.out 0).trans rfl; have hcz68_1 : wc.cell? ⟨gb178, 1, none⟩ = some (.int .i64 ((rd_T23 l2 a4).f1)) := (blk_cell BK178.out 1).trans rfl; have hcz68_2 : wc.cell? ⟨gb178, 2, none⟩ = some (.int .i64 ((rd_T23 l2 a4).f2)) := (blk_cell BK178.out 2).trans rfl; have hcz68_3 : wc.cell? ⟨gb178, 3, none⟩ = some (.bool ((rd_T23 l2 a4).f3)) := (blk_cell BK178.out 3).trans rfl; have hfz68_0 := blk_frozen BK178.out 0; have hfz68_1 := blk_frozen BK178.out 1; have hfz68_2 := blk_frozen BK178.out 2; have hfz68_3 := blk_frozen BK178.out 3
          go_wp2_with (first | ((with_reducible refine gate_callee (f := 11) rfl ?_); refine goesL_ (some 36) rfl rfl Tryd.func11 (by kernel_rfl) rfl #[.int .i64 a0, .agg #[.string ((rd_T23 l2 a3).f0), .int .i64 ((rd_T23 l2 a3).f1), .int .i64 ((rd_T23 l2 a3).f2), .bool ((rd_T23 l2 a3).f3)], .agg #[.string ((rd_T23 l2 a4).f0), .int .i64 ((rd_T23 l2 a4).f1), .int .i64 ((rd_T23 l2 a4).f2), .bool ((rd_T23 l2 a4).f3)]] rfl (by (try simp only [List.map_toArray, List.map_cons, List.map_nil]); first | done | rfl | (simp only [List.length_drop, List.length_take]; rfl)) ?_; (with_reducible refine (domesdayref10_Compare.calls kj9 a0 ((rd_T23 l2 a3).f0) ((rd_T23 l2 a3).f1) ((rd_T23 l2 a3).f2) ((rd_T23 l2 a3).f3) ((rd_T23 l2 a4).f0) ((rd_T23 l2 a4).f1) ((rd_T23 l2 a4).f2) ((rd_T23 l2 a4).f3) t179 _ A38.out).mono ?_); rintro e w69 ⟨rfl, hb⟩; refine ⟨_, rfl, ?_⟩; have n0_ := Aside0.mk (blk_below (g := gb174) (o := .cells #[.bool false, .bool a1_1] 36 (0, 0)) (by (with_reducible repeat (first | refine blk_drewN ?_ _ | refine blk_drew ?_ | refine blk_alloc ?_ _)); exact BK174.out) hb); have n1_ := Aside0.mk (blk_below (g := gb177) (o := .cells #[.string ((rd_T23 l2 a3).f0), .int .i64 ((rd_T23 l2 a3).f1), .int .i64 ((rd_T23 l2 a3).f2), .bool ((rd_T23 l2 a3).f3)] 23 (0, 0)) (by (with_reducible repeat (first | refine blk_drewN ?_ _ | refine blk_drew ?_ | refine blk_alloc ?_ _)); exact BK177.out) hb); have n2_ := Aside0.mk (blk_below (g := gb178) (o := .cells #[.string ((rd_T23 l2 a4).f0), .int .i64 ((rd_T23 l2 a4).f1), .int .i64 ((rd_T23 l2 a4).f2), .bool ((rd_T23 l2 a4).f3)] 23 (0, 0)) (by (with_reducible repeat (first | refine blk_drewN ?_ _ | refine blk_drew ?_ | refine blk_alloc ?_ _)); exact BK178.out) hb); have n3_ := Aside0.mk (below_step (by repeat (first | (with_reducible first | exact HB.out | apply below_alloc | apply pw_below_drewN | apply below_drew1 | refine below_set ?_ GE174.out | refine below_set ?_ GE177.out | refine below_set ?_ GE178.out) | exact HB.out)) hb); clear BK174; clear BK177; clear BK178; clear HB; have BK174 := n0_; have BK177 := n1_; have BK178 := n2_; have HB := n3_; clear n0_ n1_ n2_ n3_; (try clear hb); (try clear hb2); (try clear hk); (try clear hi); have hcz70_0 : w69.cell? ⟨gb174, 0, none⟩ = some (.bool false) := (blk_cell BK174.out 0).trans rfl; have hcz70_1 : w69.cell? ⟨gb174, 1, none⟩ = some (.bool a1_1) := (blk_cell BK174.out 1).trans rfl; have hfz70_0 := blk_frozen BK174.out 0; have hfz70_1 := blk_frozen BK174.out 1))
          go_ret
          exact ⟨by first | rfl | (simp [errW_none, errW_some] <;> rfl) | (simp [*, errW_none, errW_some] <;> rfl), by repeat (first | (with_reducible first | exact HB.out | apply below_alloc | apply pw_below_drewN | apply below_drew1 | refine below_set ?_ GE174.out | refine below_set ?_ GE177.out | refine below_set ?_ GE178.out) | exact HB.out)⟩
         ·rw [if_neg c63] at H
          have c63b0 : decide (t179 < 0) = false := decide_eq_false c63
          clear c63
          by_cases c71 : t179 = 0
          ·rw [if_pos c71] at H
           have c71b0 : (t179 == 0) = true := beq_iff_eq.mpr c71
           have c71b1 : (t179 != 0) = false := bne_eq_false_iff_eq.mpr c71
           clear c71
           obtain rfl := Option.some.inj H
           have hnb72 := NB177_174.out; have hnc72 := NB174_177.out; have hnb73 := NB177_178.out; have hnc73 := NB178_177.out; have hcz74_0 : wc.cell? ⟨gb177, 0, none⟩ = some (.string ((rd_T23 l2 a3).f0)) := (blk_cell BK177.out 0).trans rfl; have hcz74_1 : wc.cell? ⟨gb177, 1, none⟩ = some (.int .i64 ((rd_T23 l2 a3).f1)) := (blk_cell BK177.out 1).trans rfl; have hcz74_2 : wc.cell? ⟨gb177, 2, none⟩ = some (.int .i64 ((rd_T23 l2 a3).f2)) := (blk_cell BK177.out 2).trans rfl; have hcz74_3 : wc.cell? ⟨gb177, 3, none⟩ = some (.bool ((rd_T23 l2 a3).f3)) := (blk_cell BK177.out 3).trans rfl; have hfz74_0 := blk_frozen BK177.out 0; have hfz74_1 := blk_frozen BK177.out 1; have hfz74_2 := blk_frozen BK177.out 2; have hfz74_3 := blk_frozen BK177.out 3; have hnb75 := NB178_174.out; have hnc75 := NB174_178.out; have hcz76_0 : wc.cell? ⟨gb178, 0, none⟩ = some (.string ((rd_T23 l2 a4).f0)) := (blk_cell BK178.out 0).trans rfl; have hcz76_1 : wc.cell? ⟨gb178, 1, none⟩ = some (.int .i64 ((rd_T23 l2 a4).f1)) := (blk_cell BK178.out 1).trans rfl; have hcz76_2 : wc.cell? ⟨gb178, 2, none⟩ = some (.int .i64 ((rd_T23 l2 a4).f2)) := (blk_cell BK178.out 2).trans rfl; have hcz76_3 : wc.cell? ⟨gb178, 3, none⟩ = some (.bool ((rd_T23 l2 a4).f3)) := (blk_cell BK178.out 3).trans rfl; have hfz76_0 := blk_frozen BK178.out 0; have hfz76_1 := blk_frozen BK178.out 1; have hfz76_2 := blk_frozen BK178.out 2; have hfz76_3 := blk_frozen BK178.out 3
           go_wp2_with (first | ((with_reducible refine gate_callee (f := 11) rfl ?_); refine goesL_ (some 36) rfl rfl Tryd.func11 (by kernel_rfl) rfl #[.int .i64 a0, .agg #[.string ((rd_T23 l2 a3).f0), .int .i64 ((rd_T23 l2 a3).f1), .int .i64 ((rd_T23 l2 a3).f2), .bool ((rd_T23 l2 a3).f3)], .agg #[.string ((rd_T23 l2 a4).f0), .int .i64 ((rd_T23 l2 a4).f1), .int .i64 ((rd_T23 l2 a4).f2), .bool ((rd_T23 l2 a4).f3)]] rfl (by (try simp only [List.map_toArray, List.map_cons, List.map_nil]); first | done | rfl | (simp only [List.length_drop, List.length_take]; rfl)) ?_; (with_reducible refine (domesdayref10_Compare.calls kj9 a0 ((rd_T23 l2 a3).f0) ((rd_T23 l2 a3).f1) ((rd_T23 l2 a3).f2) ((rd_T23 l2 a3).f3) ((rd_T23 l2 a4).f0) ((rd_T23 l2 a4).f1) ((rd_T23 l2 a4).f2) ((rd_T23 l2 a4).f3) t179 _ A38.out).mono ?_); rintro e w77 ⟨rfl, hb⟩; refine ⟨_, rfl, ?_⟩; have n0_ := Aside0.mk (blk_below (g := gb174) (o := .cells #[.bool false, .bool a1_1] 36 (0, 0)) (by (with_reducible repeat (first | refine blk_drewN ?_ _ | refine blk_drew ?_ | refine blk_alloc ?_ _)); exact BK174.out) hb); have n1_ := Aside0.mk (blk_below (g := gb177) (o := .cells #[.string ((rd_T23 l2 a3).f0), .int .i64 ((rd_T23 l2 a3).f1), .int .i64 ((rd_T23 l2 a3).f2), .bool ((rd_T23 l2 a3).f3)] 23 (0, 0)) (by (with_reducible repeat (first | refine blk_drewN ?_ _ | refine blk_drew ?_ | refine blk_alloc ?_ _)); exact BK177.out) hb); have n2_ := Aside0.mk (blk_below (g := gb178) (o := .cells #[.string ((rd_T23 l2 a4).f0), .int .i64 ((rd_T23 l2 a4).f1), .int .i64 ((rd_T23 l2 a4).f2), .bool ((rd_T23 l2 a4).f3)] 23 (0, 0)) (by (with_reducible repeat (first | refine blk_drewN ?_ _ | refine blk_drew ?_ | refine blk_alloc ?_ _)); exact BK178.out) hb); have n3_ := Aside0.mk (below_step (by repeat (first | (with_reducible first | exact HB.out | apply below_alloc | apply pw_below_drewN | apply below_drew1 | refine below_set ?_ GE174.out | refine below_set ?_ GE177.out | refine below_set ?_ GE178.out) | exact HB.out)) hb); clear BK174; clear BK177; clear BK178; clear HB; have BK174 := n0_; have BK177 := n1_; have BK178 := n2_; have HB := n3_; clear n0_ n1_ n2_ n3_; (try clear hb); (try clear hb2); (try clear hk); (try clear hi); have hcz78_0 : w77.cell? ⟨gb174, 0, none⟩ = some (.bool false) := (blk_cell BK174.out 0).trans rfl; have hcz78_1 : w77.cell? ⟨gb174, 1, none⟩ = some (.bool a1_1) := (blk_cell BK174.out 1).trans rfl; have hfz78_0 := blk_frozen BK174.out 0; have hfz78_1 := blk_frozen BK174.out 1))
           go_ret
           exact ⟨by first | rfl | (simp [errW_none, errW_some] <;> rfl) | (simp [*, errW_none, errW_some] <;> rfl), by repeat (first | (with_reducible first | exact HB.out | apply below_alloc | apply pw_below_drewN | apply below_drew1 | refine below_set ?_ GE174.out | refine below_set ?_ GE177.out | refine below_set ?_ GE178.out) | exact HB.out)⟩
          ·rw [if_neg c71] at H
           have c71b0 : (t179 == 0) = false := beq_eq_false_iff_ne.mpr c71
           have c71b1 : (t179 != 0) = true := bne_iff_ne.mpr c71
           obtain rfl := Option.some.inj H
           have hnb79 := NB177_174.out; have hnc79 := NB174_177.out; have hnb80 := NB177_178.out; have hnc80 := NB178_177.out; have hcz81_0 : wc.cell? ⟨gb177, 0, none⟩ = some (.string ((rd_T23 l2 a3).f0)) := (blk_cell BK177.out 0).trans rfl; have hcz81_1 : wc.cell? ⟨gb177, 1, none⟩ = some (.int .i64 ((rd_T23 l2 a3).f1)) := (blk_cell BK177.out 1).trans rfl; have hcz81_2 : wc.cell? ⟨gb177, 2, none⟩ = some (.int .i64 ((rd_T23 l2 a3).f2)) := (blk_cell BK177.out 2).trans rfl; have hcz81_3 : wc.cell? ⟨gb177, 3, none⟩ = some (.bool ((rd_T23 l2 a3).f3)) := (blk_cell BK177.out 3).trans rfl; have hfz81_0 := blk_frozen BK177.out 0; have hfz81_1 := blk_frozen BK177.out 1; have hfz81_2 := blk_frozen BK177.out 2; have hfz81_3 := blk_frozen BK177.out 3; have hnb82 := NB178_174.out; have hnc82 := NB174_178.out; have hcz83_0 : wc.cell? ⟨gb178, 0, none⟩ = some (.string ((rd_T23 l2 a4).f0)) := (blk_cell BK178.out 0).trans rfl; have hcz83_1 : wc.cell? ⟨gb178, 1, none⟩ = some (.int .i64 ((rd_T23 l2 a4).f1)) := (blk_cell BK178.out 1).trans rfl; have hcz83_2 : wc.cell? ⟨gb178, 2, none⟩ = some (.int .i64 ((rd_T23 l2 a4).f2)) := (blk_cell BK178.out 2).trans rfl; have hcz83_3 : wc.cell? ⟨gb178, 3, none⟩ = some (.bool ((rd_T23 l2 a4).f3)) := (blk_cell BK178.out 3).trans rfl; have hfz83_0 := blk_frozen BK178.out 0; have hfz83_1 := blk_frozen BK178.out 1; have hfz83_2 := blk_frozen BK178.out 2; have hfz83_3 := blk_frozen BK178.out 3
           go_wp2_with (first | ((with_reducible refine gate_callee (f := 11) rfl ?_); refine goesL_ (some 36) rfl rfl Tryd.func11 (by kernel_rfl) rfl #[.int .i64 a0, .agg #[.string ((rd_T23 l2 a3).f0), .int .i64 ((rd_T23 l2 a3).f1), .int .i64 ((rd_T23 l2 a3).f2), .bool ((rd_T23 l2 a3).f3)], .agg #[.string ((rd_T23 l2 a4).f0), .int .i64 ((rd_T23 l2 a4).f1), .int .i64 ((rd_T23 l2 a4).f2), .bool ((rd_T23 l2 a4).f3)]] rfl (by (try simp only [List.map_toArray, List.map_cons, List.map_nil]); first | done | rfl | (simp only [List.length_drop, List.length_take]; rfl)) ?_; (with_reducible refine (domesdayref10_Compare.calls kj9 a0 ((rd_T23 l2 a3).f0) ((rd_T23 l2 a3).f1) ((rd_T23 l2 a3).f2) ((rd_T23 l2 a3).f3) ((rd_T23 l2 a4).f0) ((rd_T23 l2 a4).f1) ((rd_T23 l2 a4).f2) ((rd_T23 l2 a4).f3) t179 _ A38.out).mono ?_); rintro e w84 ⟨rfl, hb⟩; refine ⟨_, rfl, ?_⟩; have n0_ := Aside0.mk (blk_below (g := gb174) (o := .cells #[.bool false, .bool a1_1] 36 (0, 0)) (by (with_reducible repeat (first | refine blk_drewN ?_ _ | refine blk_drew ?_ | refine blk_alloc ?_ _)); exact BK174.out) hb); have n1_ := Aside0.mk (blk_below (g := gb177) (o := .cells #[.string ((rd_T23 l2 a3).f0), .int .i64 ((rd_T23 l2 a3).f1), .int .i64 ((rd_T23 l2 a3).f2), .bool ((rd_T23 l2 a3).f3)] 23 (0, 0)) (by (with_reducible repeat (first | refine blk_drewN ?_ _ | refine blk_drew ?_ | refine blk_alloc ?_ _)); exact BK177.out) hb); have n2_ := Aside0.mk (blk_below (g := gb178) (o := .cells #[.string ((rd_T23 l2 a4).f0), .int .i64 ((rd_T23 l2 a4).f1), .int .i64 ((rd_T23 l2 a4).f2), .bool ((rd_T23 l2 a4).f3)] 23 (0, 0)) (by (with_reducible repeat (first | refine blk_drewN ?_ _ | refine blk_drew ?_ | refine blk_alloc ?_ _)); exact BK178.out) hb); have n3_ := Aside0.mk (below_step (by repeat (first | (with_reducible first | exact HB.out | apply below_alloc | apply pw_below_drewN | apply below_drew1 | refine below_set ?_ GE174.out | refine below_set ?_ GE177.out | refine below_set ?_ GE178.out) | exact HB.out)) hb); clear BK174; clear BK177; clear BK178; clear HB; have BK174 := n0_; have BK177 := n1_; have BK178 := n2_; have HB := n3_; clear n0_ n1_ n2_ n3_; (try clear hb); (try clear hb2); (try clear hk); (try clear hi); have hcz85_0 : w84.cell? ⟨gb174, 0, none⟩ = some (.bool false) := (blk_cell BK174.out 0).trans rfl; have hcz85_1 : w84.cell? ⟨gb174, 1, none⟩ = some (.bool a1_1) := (blk_cell BK174.out 1).trans rfl; have hfz85_0 := blk_frozen BK174.out 0; have hfz85_1 := blk_frozen BK174.out 1))
           go_ret
           exact ⟨by first | rfl | (simp [errW_none, errW_some] <;> rfl) | (simp [*, errW_none, errW_some] <;> rfl), by repeat (first | (with_reducible first | exact HB.out | apply below_alloc | apply pw_below_drewN | apply below_drew1 | refine below_set ?_ GE174.out | refine below_set ?_ GE177.out | refine below_set ?_ GE178.out) | exact HB.out)⟩
    ·rw [if_neg c9] at H
     exact absurd H (by simp)
   ·rw [if_neg c8] at H
    exact absurd H (by simp)
  ·rw [if_neg c7] at H
   exact absurd H (by simp)
 ·rw [if_neg c6] at H
  exact absurd H (by simp)
/-! ### domesdayref10_Sort: function 17 -/
mutual
def domesdayref10_Sort.l0 : Nat → Int → Bool → Bool → List (S23) → List Int → Int → Option (List Int)
 | 0, _, _, _, _, _, _ => none
 | k + 1, x0, x1, x2, x3, x9, x10 => if x10 < (x3.length : Int) then (domesdayref10_Sort.l1 k x0 x1 x2 x3 x9 x10 0 0) else (some x9)
def domesdayref10_Sort.l1 : Nat → Int → Bool → Bool → List (S23) → List Int → Int → Int → Int → Option (List Int)
 | 0, _, _, _, _, _, _, _, _ => none
 | k + 1, x0, x1, x2, x3, x9, x10, x11, x12 => if x12 < (x3.length : Int) then (if x12 = x10 then (domesdayref10_Sort.l1 k x0 x1 x2 x3 x9 x10 x11 (wrap64 (x12 + 1))) else ((domesdayref10_ahead.f k x0 x1 x2 x3 x12 x10).bind fun t183 => (if t183 = true then (domesdayref10_Sort.l1 k x0 x1 x2 x3 x9 x10 (wrap64 (x11 + 1)) (wrap64 (x12 + 1))) else (domesdayref10_Sort.l1 k x0 x1 x2 x3 x9 x10 x11 (wrap64 (x12 + 1)))))) else (if 0 ≤ x11 then (if x11 < (x9.length : Int) then (domesdayref10_Sort.l0 k x0 x1 x2 x3 (x9.set (x11 : Int).toNat x10) (wrap64 (x10 + 1))) else (none)) else (none))
end
def domesdayref10_Sort.f (k : Nat) (a0 : Int) (a1 : Bool) (a2 : Bool) (l3 : List (S23)) : Option (List Int) := if 0 ≤ (l3.length : Int) then (if ((l3.length : Int) : Int).toNat ≤ 35184372088832 then (domesdayref10_Sort.l0 k a0 a1 a2 l3 (List.replicate ((l3.length : Int) : Int).toNat 0) 0) else (none)) else (none)
theorem domesdayref10_Sort.mono_l : ∀ k, (∀ y0 y1 y2 y3 y4 y5, LeO (domesdayref10_Sort.l0 k y0 y1 y2 y3 y4 y5) (domesdayref10_Sort.l0 (k + 1) y0 y1 y2 y3 y4 y5)) ∧ (∀ y0 y1 y2 y3 y4 y5 y6 y7, LeO (domesdayref10_Sort.l1 k y0 y1 y2 y3 y4 y5 y6 y7) (domesdayref10_Sort.l1 (k + 1) y0 y1 y2 y3 y4 y5 y6 y7))
 | 0 => ⟨fun _ _ _ _ _ _ r h => by simp [domesdayref10_Sort.l0] at h, fun _ _ _ _ _ _ _ _ r h => by simp [domesdayref10_Sort.l1] at h⟩
 | k + 1 => by
  obtain ⟨ih0, ih1⟩ := domesdayref10_Sort.mono_l k
  refine ⟨?_, ?_⟩
  ·intro y0 y1 y2 y3 y4 y5
   unfold domesdayref10_Sort.l0
   repeat' first
   | (with_reducible exact ih0 _ _ _ _ _ _)
   | (with_reducible exact ih1 _ _ _ _ _ _ _ _)
   | (with_reducible exact domesdayref10_ahead.mono _ _ _ _ _ _ _)
   | (with_reducible exact LeO.refl _)
   | (with_reducible exact LeO.none _)
   | (with_reducible refine LeO.ite ?_ ?_)
   | (with_reducible refine LeO.bind ?_ (fun _ => ?_))
   | exact ih0 _ _ _ _ _ _
   | exact ih1 _ _ _ _ _ _ _ _
   | exact domesdayref10_ahead.mono _ _ _ _ _ _ _
   | exact LeO.none _
   | refine LeO.ite ?_ ?_
   | refine LeO.bind ?_ (fun _ => ?_)
  ·intro y0 y1 y2 y3 y4 y5 y6 y7
   unfold domesdayref10_Sort.l1
   repeat' first
   | (with_reducible exact ih0 _ _ _ _ _ _)
   | (with_reducible exact ih1 _ _ _ _ _ _ _ _)
   | (with_reducible exact domesdayref10_ahead.mono _ _ _ _ _ _ _)
   | (with_reducible exact LeO.refl _)
   | (with_reducible exact LeO.none _)
   | (with_reducible refine LeO.ite ?_ ?_)
   | (with_reducible refine LeO.bind ?_ (fun _ => ?_))
   | exact ih0 _ _ _ _ _ _
   | exact ih1 _ _ _ _ _ _ _ _
   | exact domesdayref10_ahead.mono _ _ _ _ _ _ _
   | exact LeO.none _
   | refine LeO.ite ?_ ?_
   | refine LeO.bind ?_ (fun _ => ?_)
theorem domesdayref10_Sort.mono : ∀ a0 a1 a2 a3 k, LeO (domesdayref10_Sort.f k a0 a1 a2 a3) (domesdayref10_Sort.f (k + 1) a0 a1 a2 a3) := by
 intro a0 a1 a2 a3 k
 obtain ⟨ih0, ih1⟩ := domesdayref10_Sort.mono_l k
 unfold domesdayref10_Sort.f
 repeat' first
   | (with_reducible exact ih0 _ _ _ _ _ _)
   | (with_reducible exact ih1 _ _ _ _ _ _ _ _)
   | (with_reducible exact domesdayref10_ahead.mono _ _ _ _ _ _ _)
   | (with_reducible exact LeO.refl _)
   | (with_reducible exact LeO.none _)
   | (with_reducible refine LeO.ite ?_ ?_)
   | (with_reducible refine LeO.bind ?_ (fun _ => ?_))
   | exact ih0 _ _ _ _ _ _
   | exact ih1 _ _ _ _ _ _ _ _
   | exact domesdayref10_ahead.mono _ _ _ _ _ _ _
   | exact LeO.none _
   | refine LeO.ite ?_ ?_
   | refine LeO.bind ?_ (fun _ => ?_)
set_option maxHeartbeats 8000000 in
set_option maxRecDepth 100000 in
theorem domesdayref10_Sort.calls (k : Nat) (a0 : Int) (a1 : Bool) (a2 : Bool) (A3 : Option Addr) (c3 : Nat) (l3 : List (S23)) (r : List Int) (w : World) (hr3 : Kd.C k23 w A3 l3.length l3) (hc3 : l3.length ≤ c3) (h : domesdayref10_Sort.f k a0 a1 a2 l3 = some r) :
  Calls Tryd.prog 17 #[.int .i64 a0, .bool a1, .bool a2, .slice A3 l3.length c3] w fun e w' => ∃ v0_ : Value, e = .returned (v0_) ∧ Kd.R (Kd.int .i64) 3 w' w.heap.size (fun _ => True) v0_ r ∧ Below w.heap.size w w' := by
 have hu36 := Tryd.underlying36
 have HR3 := Aside0.mk hr3
 have HC3 := Aside0.mk hc3
 clear hr3 hc3
 have HB := Aside0.mk (Below.refl w.heap.size w)
 have H : (if 0 ≤ (l3.length : Int) then (if ((l3.length : Int) : Int).toNat ≤ 35184372088832 then (domesdayref10_Sort.l0 k a0 a1 a2 l3 (List.replicate ((l3.length : Int) : Int).toNat 0) 0) else (none)) else (none)) = some r := h
 clear h
 by_cases c5 : 0 ≤ (l3.length : Int)
 ·rw [if_pos c5] at H
  have c5b0 := eq_true c5
  have c5b1 : decide (0 ≤ (l3.length : Int)) = true := decide_eq_true c5
  clear c5
  by_cases c6 : ((l3.length : Int) : Int).toNat ≤ 35184372088832
  ·rw [if_pos c6] at H
   have c6b0 := eq_true c6
   have c6b1 : decide (((l3.length : Int) : Int).toNat ≤ 35184372088832) = true := decide_eq_true c6
   clear c6
   obtain ⟨y180, hy180⟩ : ∃ y_ : List Int, y_ = (List.replicate ((l3.length : Int) : Int).toNat 0) := ⟨_, rfl⟩
   replace H : (domesdayref10_Sort.l0 k a0 a1 a2 l3 y180 0) = some r := by first | (rw [hy180]; with_reducible exact H) | (have H2_ := (Option.bind_some _ _).symm.trans H; rw [hy180]; with_reducible exact H2_) | (have H2_ := (Option.bind_some _ _).symm.trans H; with_reducible exact H2_) | with_reducible exact H | (rw [hy180]; exact H) | exact H
   have Ny180 := Aside0.mk hy180
   clear hy180
   have H' := Aside0.mk H
   clear H
   go_enter Tryd.func17, Tryd.ntmps17
   go_wp2_with (first | ((with_reducible refine gate_dst (N := 15) rfl ?_); refine Kd.R_make (Kd.int .i64) _ 3 rfl (N := 15) rfl 33 _ _ rfl (l3.length : Int) rfl rfl Tryd.underlying33 (.int .i64 0) 8 info3 rfl (by decide) (by omega) 0 (ok := fun _ => True) (okp := fun _ => True) rfl (fun _ hk => hk) trivial (of_decide_eq_true (by first | (with_reducible assumption) | assumption)) (Nat.le_trans (Nat.mul_le_mul_right _ (of_decide_eq_true (by first | (with_reducible assumption) | assumption) : (l3.length : Int).toNat ≤ 35184372088832)) (by omega)) (Below.refl _ _) (Nat.le_refl _) ?_; intro v181 w7 ho8 hb hg_ hnew_; clear hg_ hnew_; (first | rw [← Ny180.out] at ho8 | (simp only [Int.reduceToNat] at ho8; rw [← Ny180.out] at ho8)); have n0_ := Aside0.mk (Kd.R_lower ho8 (below_size (by repeat (first | (with_reducible first | exact HB.out | apply below_alloc | apply pw_below_drewN | apply below_drew1) | exact HB.out)))); have n1_ := Aside0.mk (below_step (by repeat (first | (with_reducible first | exact HB.out | apply below_alloc | apply pw_below_drewN | apply below_drew1) | exact HB.out)) hb); clear HB; have HO182 := n0_; have HB := n1_; clear n0_ n1_; clear hb ho8))
   go_loopg [10] k (fun kq v10 w' => ∃ (x9_1 : List Int) (x10_1 : Int), v10 = .int .i64 x10_1 ∧ Aside0 (domesdayref10_Sort.l0 kq a0 a1 a2 l3 x9_1 x10_1 = some r) ∧ Aside0 (kq ≤ k) ∧ Aside0 (Kd.R (Kd.int .i64) 3 w' w.heap.size (fun _ => True) v181 x9_1) ∧ Aside0 (Below w.heap.size w w'))
   case atStart => exact ⟨(y180), (0), (by first | rfl | (simp; done) | (simp [*]; done)), H', ⟨Nat.le_refl _⟩, ⟨by (with_reducible repeat (first | apply Kd.R_alloc | apply Kd.R_drewN | apply Kd.R_drew)); exact HO182.out⟩, ⟨by repeat (first | (with_reducible first | exact HB.out | apply below_alloc | apply pw_below_drewN | apply below_drew1) | exact HB.out)⟩⟩
   case round =>
    clear H'
    (try clear c1); (try clear p2); (try clear c3); (try clear c5); (try clear c5b0); (try clear c5b1); (try clear c6); (try clear c6b0); (try clear c6b1)
    obtain ⟨x9_1, x10_1, rfl, HA, HK1, HO_9, HB⟩ := hrel
    cases gk with
    | zero => exact absurd HA.out (by simp [domesdayref10_Sort.l0])
    | succ k1 =>
     have H := HA.out
     clear HA
     simp only [domesdayref10_Sort.l0] at H
     by_cases c9 : x10_1 < (l3.length : Int)
     ·rw [if_pos c9] at H
      have c9b0 : decide (x10_1 < (l3.length : Int)) = true := decide_eq_true c9
      clear c9
      have H' := Aside0.mk H
      clear H
      go_wp2
      go_loopg [11, 12] k1 (fun kq v11 v12 w' => ∃ (x11_2 : Int) (x12_2 : Int), v11 = .int .i64 x11_2 ∧ v12 = .int .i64 x12_2 ∧ Aside0 (domesdayref10_Sort.l1 kq a0 a1 a2 l3 x9_1 x10_1 x11_2 x12_2 = some r) ∧ Aside0 (kq ≤ k1) ∧ Aside0 (Kd.R (Kd.int .i64) 3 w' w.heap.size (fun _ => True) v181 x9_1) ∧ Aside0 (Below w.heap.size w w'))
      case atStart => exact ⟨(0), (0), (by first | rfl | (simp; done) | (simp [*]; done)), (by first | rfl | (simp; done) | (simp [*]; done)), H', ⟨Nat.le_refl _⟩, ⟨by (with_reducible repeat (first | apply Kd.R_alloc | apply Kd.R_drewN | apply Kd.R_drew)); exact HO_9.out⟩, ⟨by repeat (first | (with_reducible first | exact HB.out | apply below_alloc | apply pw_below_drewN | apply below_drew1) | exact HB.out)⟩⟩
      case round =>
       clear H'
       (try clear c1); (try clear p2); (try clear c3); (try clear c5); (try clear c5b0); (try clear c5b1); (try clear c6); (try clear c6b0); (try clear c6b1); (try clear c9); (try clear c9b0); (try clear p2)
       obtain ⟨x11_2, x12_2, rfl, rfl, HA, HK2, HO_9, HB⟩ := hrel
       cases gk with
       | zero => exact absurd HA.out (by simp [domesdayref10_Sort.l1])
       | succ k2 =>
        have H := HA.out
        clear HA
        simp only [domesdayref10_Sort.l1] at H
        by_cases c10 : x12_2 < (l3.length : Int)
        ·rw [if_pos c10] at H
         have c10b0 : decide (x12_2 < (l3.length : Int)) = true := decide_eq_true c10
         clear c10
         by_cases c11 : x12_2 = x10_1
         ·rw [if_pos c11] at H
          have c11b0 : (x12_2 == x10_1) = true := beq_iff_eq.mpr c11
          have c11b1 : (x12_2 != x10_1) = false := bne_eq_false_iff_eq.mpr c11
          clear c11
          have H' := Aside0.mk H
          clear H
          go_wp2
          go_roundg k2
          case measure => have := HK1.out; have := HK2.out; omega
          case rel => exact ⟨(x11_2), (wrap64 (x12_2 + 1)), (by first | rfl | (simp; done) | (simp [*]; done)), (by first | rfl | (simp; done) | (simp [*]; done)), H', ⟨by have := HK1.out; have := HK2.out; omega⟩, ⟨by (with_reducible repeat (first | apply Kd.R_alloc | apply Kd.R_drewN | apply Kd.R_drew)); exact HO_9.out⟩, ⟨by repeat (first | (with_reducible first | exact HB.out | apply below_alloc | apply pw_below_drewN | apply below_drew1) | exact HB.out)⟩⟩
         ·rw [if_neg c11] at H
          have c11b0 : (x12_2 == x10_1) = false := beq_eq_false_iff_ne.mpr c11
          have c11b1 : (x12_2 != x10_1) = true := bne_iff_ne.mpr c11
          replace H := Option.bind_eq_some_iff.mp H
          obtain ⟨t183, A120, H⟩ := H
          replace H : (if t183 = true then (domesdayref10_Sort.l1 k2 a0 a1 a2 l3 x9_1 x10_1 (wrap64 (x11_2 + 1)) (wrap64 (x12_2 + 1))) else (domesdayref10_Sort.l1 k2 a0 a1 a2 l3 x9_1 x10_1 x11_2 (wrap64 (x12_2 + 1)))) = some r := H
          have A12 := Aside0.mk A120
          clear A120
          by_cases c13 : t183 = true
          ·subst c13
           have H1 : (domesdayref10_Sort.l1 k2 a0 a1 a2 l3 x9_1 x10_1 (wrap64 (x11_2 + 1)) (wrap64 (x12_2 + 1))) = some r := by rw [if_pos rfl] at H; exact H
           clear H
           have H := H1
           clear H1
           have H' := Aside0.mk H
           clear H
           go_wp2_with (first | (go_at_call 30; (with_reducible refine (domesdayref10_ahead.calls k2 a0 a1 a2 _ _ l3 x12_2 x10_1 true _ ?side1 ?side2 A12.out).mono ?_); (case side1 => repeat (first | exact (Kd.C_below HR3.out HB.out) | (with_reducible refine Kd.C_alloc ?_ _) | (with_reducible refine Kd.C_drewN ?_ _) | (with_reducible refine Kd.C_drew ?_))); (case side2 => exact HC3.out); rintro e w14 ⟨rfl, hb⟩; have n0_ := Aside0.mk (Kd.R_below (by (with_reducible repeat (first | apply Kd.R_alloc | apply Kd.R_drewN | apply Kd.R_drew)); exact HO_9.out) hb); have n1_ := Aside0.mk (below_step (by repeat (first | (with_reducible first | exact HB.out | apply below_alloc | apply pw_below_drewN | apply below_drew1) | exact HB.out)) hb); clear HO_9; clear HB; have HO_9 := n0_; have HB := n1_; clear n0_ n1_; (try clear hb); (try clear hb2); (try clear hk); (try clear hi)))
           go_roundg k2
           case measure => have := HK1.out; have := HK2.out; omega
           case rel => exact ⟨(wrap64 (x11_2 + 1)), (wrap64 (x12_2 + 1)), (by first | rfl | (simp; done) | (simp [*]; done)), (by first | rfl | (simp; done) | (simp [*]; done)), H', ⟨by have := HK1.out; have := HK2.out; omega⟩, ⟨by (with_reducible repeat (first | apply Kd.R_alloc | apply Kd.R_drewN | apply Kd.R_drew)); exact HO_9.out⟩, ⟨by repeat (first | (with_reducible first | exact HB.out | apply below_alloc | apply pw_below_drewN | apply below_drew1) | exact HB.out)⟩⟩
          ·replace c13 := Bool.eq_false_iff.mpr c13
           subst c13
           have H1 : (domesdayref10_Sort.l1 k2 a0 a1 a2 l3 x9_1 x10_1 x11_2 (wrap64 (x12_2 + 1))) = some r := by rw [if_neg (show ¬ (false = true) by decide)] at H; exact H
           clear H
           have H := H1
           clear H1
           have H' := Aside0.mk H
           clear H
           go_wp2_with (first | (go_at_call 30; (with_reducible refine (domesdayref10_ahead.calls k2 a0 a1 a2 _ _ l3 x12_2 x10_1 false _ ?side1 ?side2 A12.out).mono ?_); (case side1 => repeat (first | exact (Kd.C_below HR3.out HB.out) | (with_reducible refine Kd.C_alloc ?_ _) | (with_reducible refine Kd.C_drewN ?_ _) | (with_reducible refine Kd.C_drew ?_))); (case side2 => exact HC3.out); rintro e w15 ⟨rfl, hb⟩; have n0_ := Aside0.mk (Kd.R_below (by (with_reducible repeat (first | apply Kd.R_alloc | apply Kd.R_drewN | apply Kd.R_drew)); exact HO_9.out) hb); have n1_ := Aside0.mk (below_step (by repeat (first | (with_reducible first | exact HB.out | apply below_alloc | apply pw_below_drewN | apply below_drew1) | exact HB.out)) hb); clear HO_9; clear HB; have HO_9 := n0_; have HB := n1_; clear n0_ n1_; (try clear hb); (try clear hb2); (try clear hk); (try clear hi)))
           go_roundg k2
           case measure => have := HK1.out; have := HK2.out; omega
           case rel => exact ⟨(x11_2), (wrap64 (x12_2 + 1)), (by first | rfl | (simp; done) | (simp [*]; done)), (by first | rfl | (simp; done) | (simp [*]; done)), H', ⟨by have := HK1.out; have := HK2.out; omega⟩, ⟨by (with_reducible repeat (first | apply Kd.R_alloc | apply Kd.R_drewN | apply Kd.R_drew)); exact HO_9.out⟩, ⟨by repeat (first | (with_reducible first | exact HB.out | apply below_alloc | apply pw_below_drewN | apply below_drew1) | exact HB.out)⟩⟩
        ·rw [if_neg c10] at H
         have c10b0 : decide (x12_2 < (l3.length : Int)) = false := decide_eq_false c10
         clear c10
         by_cases c16 : 0 ≤ x11_2
         ·rw [if_pos c16] at H
          have c16b0 : decide (0 ≤ x11_2) = true := decide_eq_true c16
          clear c16
          by_cases c17 : x11_2 < (x9_1.length : Int)
          ·rw [if_pos c17] at H
           have c17b0 : decide (x11_2 < (x9_1.length : Int)) = true := decide_eq_true c17
           clear c17
           obtain ⟨y184, hy184⟩ : ∃ y_ : List Int, y_ = (x9_1.set (x11_2 : Int).toNat x10_1) := ⟨_, rfl⟩
           replace H : (domesdayref10_Sort.l0 k2 a0 a1 a2 l3 y184 (wrap64 (x10_1 + 1))) = some r := by first | (rw [hy184]; with_reducible exact H) | (have H2_ := (Option.bind_some _ _).symm.trans H; rw [hy184]; with_reducible exact H2_) | (have H2_ := (Option.bind_some _ _).symm.trans H; with_reducible exact H2_) | with_reducible exact H | (rw [hy184]; exact H) | exact H
           have Ny184 := Aside0.mk hy184
           clear hy184
           have H' := Aside0.mk H
           clear H
           have p18 : 0 ≤ (x11_2 : Int) := of_decide_eq_true (by first | (with_reducible assumption) | assumption)
           have q18 : (x11_2 : Int) < ((x9_1.length : Int) : Int) := of_decide_eq_true (by first | (with_reducible assumption) | assumption)
           obtain ⟨go18, co18, eo18, gb18, gl18, cl18, HG18⟩ := Kd.R_form HO_9.out (by omega)
           (first | cases eo18 | (injection eo18 with ea_ en_ ec_; (first | subst ea_ | (injection ea_ with ea_; subst ea_)); subst ec_; clear en_))
           have GB18 := Aside0.mk gb18
           have GG18 := Aside0.mk HG18
           clear gb18 gl18 HG18
           obtain ⟨hx18_0, hf18_0⟩ := Kd.R_celln 0 HO_9.out (x11_2 : Int) p18 q18
           replace p18 := eq_true p18
           replace q18 := eq_true q18
           have HP19 := Kd.R_putg HO_9.out (x11_2 : Int) x10_1
           go_wp2_with (first | ((with_reducible refine gate_store (t := 3) (p := 46) rfl ?_); refine store_event (t := 3) (p := 46) (v := ?vo_w20) (w1 := (wr.setCell ⟨go18, (x11_2 : Int).toNat, none⟩ (.int .i64 x10_1))) ?hg ?ho ?hn ?hr ?_; (case ho => rfl); (case hg => rfl); (case hn => rfl); (case hr => first | (go_simp; done) | (go_simp; rfl)); intro w20 hw; have hg : wr.grownBy w20 (some go18) := (by rw [hw]; exact HP19.2); have hp_ : Kd.R (Kd.int .i64) 3 w20 w.heap.size (fun _ => True) (.slice (some ⟨go18, 0, none⟩) x9_1.length co18) y184 := (by rw [hw, Ny184.out]; exact HP19.1); clear HP19; have n0_ := Aside0.mk (hp_); have n1_ := Aside0.mk ((by rw [hw]; exact below_set (HB.out) GB18.out : Below w.heap.size w w20)); clear HO_9; clear HB; have HO_9 := n0_; have HB := n1_; clear n0_ n1_; clear hg hw hp_))
           go_roundg k2
           case measure => have := HK1.out; have := HK2.out; omega
           case rel => exact ⟨(y184), (wrap64 (x10_1 + 1)), (by first | rfl | (simp; done) | (simp [*]; done)), H', ⟨by have := HK1.out; have := HK2.out; omega⟩, ⟨by (with_reducible repeat (first | apply Kd.R_alloc | apply Kd.R_drewN | apply Kd.R_drew)); exact HO_9.out⟩, ⟨by repeat (first | (with_reducible first | exact HB.out | apply below_alloc | apply pw_below_drewN | apply below_drew1) | exact HB.out)⟩⟩
          ·rw [if_neg c17] at H
           exact absurd H (by simp)
         ·rw [if_neg c16] at H
          exact absurd H (by simp)
     ·rw [if_neg c9] at H
      have c9b0 : decide (x10_1 < (l3.length : Int)) = false := decide_eq_false c9
      clear c9
      obtain rfl := Option.some.inj H
      go_wp2
      go_ret
      exact ⟨_, by first | rfl | (simp [errW_none, errW_some] <;> rfl) | (simp [*, errW_none, errW_some] <;> rfl), by (with_reducible repeat (first | apply Kd.R_alloc | apply Kd.R_drewN | apply Kd.R_drew)); exact HO_9.out, by repeat (first | (with_reducible first | exact HB.out | apply below_alloc | apply pw_below_drewN | apply below_drew1) | exact HB.out)⟩
  ·rw [if_neg c6] at H
   exact absurd H (by simp)
 ·rw [if_neg c5] at H
  exact absurd H (by simp)
end Go.Proofs.YtnlbjefhbeocmaaDoor.QOrderCompares
