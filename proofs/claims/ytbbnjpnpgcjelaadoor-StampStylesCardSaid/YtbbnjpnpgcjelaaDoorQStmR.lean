-- Made by a program of this session.
import Derived.Test.YtbbnjpnpgcjelaaDoorQStm0
import Derived.Test.YtbbnjpnpgcjelaaDoorXStmA
namespace Go.Proofs.YtbbnjpnpgcjelaaDoor.QStm
open Go.RowKit Go.Proofs.YtbbnjpnpgcjelaaDoorW.PrintWords Go.Proofs.YtbbnjpnpgcjelaaDoorW.PrintLast Go.Proofs.YtbbnjpnpgcjelaaDoorW.PrintMore
attribute [local go_sem] max2_int min2_int max_two min_two max_three min_three max_four min_four   -- for this text's walks alone
set_option linter.unusedVariables false
set_option linter.unusedSimpArgs false

/-! ### domesdayref04_Leap: function 52 -/
def domesdayref04_Leap.f (a0 : Int) : Option (Bool) := if (Int.tmod a0 400) = 0 then (some true) else (if (Int.tmod a0 4) = 0 then (some ((Int.tmod a0 100) != 0)) else (some false))
set_option maxHeartbeats 8000000 in
set_option maxRecDepth 100000 in
theorem domesdayref04_Leap.calls (a0 : Int) (r : Bool) (w : World) (h : domesdayref04_Leap.f a0 = some r) :
  Calls Tryd.prog 52 #[.int .i64 a0] w fun e w' => e = .returned (.bool r) ∧ Drawn0 w w' := by
 have H : (if (Int.tmod a0 400) = 0 then (some true) else (if (Int.tmod a0 4) = 0 then (some ((Int.tmod a0 100) != 0)) else (some false))) = some r := h
 clear h
 by_cases c2 : (Int.tmod a0 400) = 0
 ·rw [if_pos c2] at H
  have c2b0 : ((Int.tmod a0 400) == 0) = true := beq_iff_eq.mpr c2
  have c2b1 : ((Int.tmod a0 400) != 0) = false := bne_eq_false_iff_eq.mpr c2
  clear c2
  obtain rfl := Option.some.inj H
  go_enter Tryd.func52, Tryd.ntmps52
  go_wp2
  go_ret
  exact ⟨by first | rfl | (simp; done) | (simp [*]; done), by repeat (first | exact Drawn0.refl _ | apply Drawn0.step)⟩
 ·rw [if_neg c2] at H
  have c2b0 : ((Int.tmod a0 400) == 0) = false := beq_eq_false_iff_ne.mpr c2
  have c2b1 : ((Int.tmod a0 400) != 0) = true := bne_iff_ne.mpr c2
  by_cases c3 : (Int.tmod a0 4) = 0
  ·rw [if_pos c3] at H
   have c3b0 : ((Int.tmod a0 4) == 0) = true := beq_iff_eq.mpr c3
   have c3b1 : ((Int.tmod a0 4) != 0) = false := bne_eq_false_iff_eq.mpr c3
   clear c3
   obtain rfl := Option.some.inj H
   go_enter Tryd.func52, Tryd.ntmps52
   go_wp2
   go_ret
   exact ⟨by first | rfl | (simp; done) | (simp [*]; done), by repeat (first | exact Drawn0.refl _ | apply Drawn0.step)⟩
  ·rw [if_neg c3] at H
   have c3b0 : ((Int.tmod a0 4) == 0) = false := beq_eq_false_iff_ne.mpr c3
   have c3b1 : ((Int.tmod a0 4) != 0) = true := bne_iff_ne.mpr c3
   obtain rfl := Option.some.inj H
   go_enter Tryd.func52, Tryd.ntmps52
   go_wp2
   go_ret
   exact ⟨by first | rfl | (simp; done) | (simp [*]; done), by repeat (first | exact Drawn0.refl _ | apply Drawn0.step)⟩
/-! ### domesdayref04_year: function 40 -/
def domesdayref04_year.f (a0 : Int) : Option (Int) := (domesdayref04_Leap.f a0).bind fun t103 => (if t103 = true then (some 366) else (some 365))
set_option maxHeartbeats 8000000 in
set_option maxRecDepth 100000 in
theorem domesdayref04_year.calls (a0 : Int) (r : Int) (w : World) (h : domesdayref04_year.f a0 = some r) :
  Calls Tryd.prog 40 #[.int .i64 a0] w fun e w' => e = .returned (.int .i64 r) ∧ Drawn0 w w' := by
 have H : ((domesdayref04_Leap.f a0).bind fun t103 => (if t103 = true then (some 366) else (some 365))) = some r := h
 clear h
 replace H := Option.bind_eq_some_iff.mp H
 obtain ⟨t103, A20, H⟩ := H
 replace H : (if t103 = true then (some 366) else (some 365)) = some r := H
 have A2 := Aside0.mk A20
 clear A20
 by_cases c3 : t103 = true
 ·subst c3
  have H1 : (some 366) = some r := by rw [if_pos rfl] at H; exact H
  clear H
  have H := H1
  clear H1
  obtain rfl := Option.some.inj H
  go_enter Tryd.func40, Tryd.ntmps40
  go_wp2_with (first | ((with_reducible refine gate_callee (f := 52) rfl ?_); refine goesL_ (some 4) rfl rfl Tryd.func52 (by kernel_rfl) rfl #[.int .i64 a0] rfl (by (try simp only [List.map_toArray, List.map_cons, List.map_nil]); first | done | rfl | (simp only [List.length_drop, List.length_take]; rfl)) ?_; (with_reducible refine (domesdayref04_Leap.calls a0 true _ A2.out).mono ?_); rintro e w' ⟨rfl, ⟨nd, rfl⟩⟩; refine ⟨_, rfl, ?_⟩))
  go_ret
  exact ⟨by first | rfl | (simp; done) | (simp [*]; done), by repeat (first | exact Drawn0.refl _ | apply Drawn0.step)⟩
 ·replace c3 := Bool.eq_false_iff.mpr c3
  subst c3
  have H1 : (some 365) = some r := by rw [if_neg (show ¬ (false = true) by decide)] at H; exact H
  clear H
  have H := H1
  clear H1
  obtain rfl := Option.some.inj H
  go_enter Tryd.func40, Tryd.ntmps40
  go_wp2_with (first | ((with_reducible refine gate_callee (f := 52) rfl ?_); refine goesL_ (some 4) rfl rfl Tryd.func52 (by kernel_rfl) rfl #[.int .i64 a0] rfl (by (try simp only [List.map_toArray, List.map_cons, List.map_nil]); first | done | rfl | (simp only [List.length_drop, List.length_take]; rfl)) ?_; (with_reducible refine (domesdayref04_Leap.calls a0 false _ A2.out).mono ?_); rintro e w' ⟨rfl, ⟨nd, rfl⟩⟩; refine ⟨_, rfl, ?_⟩))
  go_ret
  exact ⟨by first | rfl | (simp; done) | (simp [*]; done), by repeat (first | exact Drawn0.refl _ | apply Drawn0.step)⟩
/-! ### domesdayref04_Days: function 41 -/
def domesdayref04_Days.j0 : Nat → Int → Int → Bool → Int → Int → Int → Int → Int → Int → Int → Int → Int → Int → Int → Int → Int → Option (Int)
 | 0, _, _, _, _, _, _, _, _, _, _, _, _, _, _, _, _ => none
 | k + 1, x0, x1, x12, x105000, x105001, x105002, x105003, x105004, x105005, x105006, x105007, x105008, x105009, x105010, x105011, x105012 => if x12 = true then (some 0) else (if x1 = 2 then ((domesdayref04_Leap.f x0).bind fun t105 => (if t105 = true then (some 29) else (if 0 ≤ x1 then (if x1 < 13 then (some (rd [x105000, x105001, x105002, x105003, x105004, x105005, x105006, x105007, x105008, x105009, x105010, x105011, x105012] x1)) else (none)) else (none)))) else (if 0 ≤ x1 then (if x1 < 13 then (some (rd [x105000, x105001, x105002, x105003, x105004, x105005, x105006, x105007, x105008, x105009, x105010, x105011, x105012] x1)) else (none)) else (none)))
def domesdayref04_Days.f (k : Nat) (a0 : Int) (a1 : Int) : Option (Int) := if a1 < 1 then (domesdayref04_Days.j0 k a0 a1 true 0 31 28 31 30 31 30 31 31 30 31 30 31) else (domesdayref04_Days.j0 k a0 a1 (decide (a1 > 12)) 0 31 28 31 30 31 30 31 31 30 31 30 31)
theorem domesdayref04_Days.mono_l : ∀ k, (∀ y0 y1 y2 y3 y4 y5 y6 y7 y8 y9 y10 y11 y12 y13 y14 y15, LeO (domesdayref04_Days.j0 k y0 y1 y2 y3 y4 y5 y6 y7 y8 y9 y10 y11 y12 y13 y14 y15) (domesdayref04_Days.j0 (k + 1) y0 y1 y2 y3 y4 y5 y6 y7 y8 y9 y10 y11 y12 y13 y14 y15))
 | 0 => fun _ _ _ _ _ _ _ _ _ _ _ _ _ _ _ _ r h => by simp [domesdayref04_Days.j0] at h
 | k + 1 => by
  have ih0 := domesdayref04_Days.mono_l k
  ·intro y0 y1 y2 y3 y4 y5 y6 y7 y8 y9 y10 y11 y12 y13 y14 y15
   unfold domesdayref04_Days.j0
   repeat' first
   | (with_reducible exact ih0 _ _ _ _ _ _ _ _ _ _ _ _ _ _ _ _)
   | (with_reducible exact LeO.refl _)
   | (with_reducible exact LeO.none _)
   | (with_reducible refine LeO.ite ?_ ?_)
   | (with_reducible refine LeO.bind ?_ (fun _ => ?_))
   | exact ih0 _ _ _ _ _ _ _ _ _ _ _ _ _ _ _ _
   | exact LeO.none _
   | refine LeO.ite ?_ ?_
   | refine LeO.bind ?_ (fun _ => ?_)
theorem domesdayref04_Days.mono : ∀ a0 a1 k, LeO (domesdayref04_Days.f k a0 a1) (domesdayref04_Days.f (k + 1) a0 a1) := by
 intro a0 a1 k
 have ih0 := domesdayref04_Days.mono_l k
 unfold domesdayref04_Days.f
 repeat' first
   | (with_reducible exact ih0 _ _ _ _ _ _ _ _ _ _ _ _ _ _ _ _)
   | (with_reducible exact LeO.refl _)
   | (with_reducible exact LeO.none _)
   | (with_reducible refine LeO.ite ?_ ?_)
   | (with_reducible refine LeO.bind ?_ (fun _ => ?_))
   | exact ih0 _ _ _ _ _ _ _ _ _ _ _ _ _ _ _ _
   | exact LeO.none _
   | refine LeO.ite ?_ ?_
   | refine LeO.bind ?_ (fun _ => ?_)
set_option maxHeartbeats 8000000 in
set_option maxRecDepth 100000 in
theorem domesdayref04_Days.calls (k : Nat) (a0 : Int) (a1 : Int) (r : Int) (w : World) (h : domesdayref04_Days.f k a0 a1 = some r) :
  Calls Tryd.prog 41 #[.int .i64 a0, .int .i64 a1] w fun e w' => e = .returned (.int .i64 r) ∧ Below w.heap.size w w' := by
 have hu84 := Tryd.underlying84
 have HB := Aside0.mk (Below.refl w.heap.size w)
 have H : (if a1 < 1 then (domesdayref04_Days.j0 k a0 a1 true 0 31 28 31 30 31 30 31 31 30 31 30 31) else (domesdayref04_Days.j0 k a0 a1 (decide (a1 > 12)) 0 31 28 31 30 31 30 31 31 30 31 30 31)) = some r := h
 clear h
 have HC3 := Aside0.mk H
 clear H
 go_enter Tryd.func41, Tryd.ntmps41
 go_upto_region 2 with (first | ((with_reducible refine gate_dst (N := 5) rfl ?_); refine box_event ?hg (N := 5) ?hd (cs := #[.int .i64 0, .int .i64 0, .int .i64 0, .int .i64 0, .int .i64 0, .int .i64 0, .int .i64 0, .int .i64 0, .int .i64 0, .int .i64 0, .int .i64 0, .int .i64 0, .int .i64 0]) (t := 84) ?hr ?_; (case hd => rfl); (case hg => rfl); (case hr => first | (go_simp; done) | (go_simp; rfl)); intro gb104 hg w4 hbox hb; have n0_ := Aside0.mk (below_step (by repeat (first | (with_reducible first | exact HB.out | apply below_alloc | apply pw_below_drewN | apply below_drew1) | exact HB.out)) hb); have n1_ := Aside0.mk (hbox); have n2_ := Aside0.mk ((by rw [hg]; exact (below_size (by repeat (first | (with_reducible first | exact HB.out | apply below_alloc | apply pw_below_drewN | apply below_drew1) | exact HB.out))) : w.heap.size ≤ gb104)); have n3_ := Aside0.mk ((by rw [hg]; exact (below_size (by repeat (first | (with_reducible first | exact HB.out | apply below_alloc | apply pw_below_drewN | apply below_drew1) | exact HB.out))) : w.heap.size ≤ gb104)); clear HB; have HB := n0_; have BK104 := n1_; have GW104 := n2_; have GE104 := n3_; clear n0_ n1_ n2_ n3_; clear hb hbox hg; have hcz5_0 : w4.cell? ⟨gb104, 0, none⟩ = some (.int .i64 0) := (blk_cell BK104.out 0).trans rfl; have hcz5_1 : w4.cell? ⟨gb104, 1, none⟩ = some (.int .i64 0) := (blk_cell BK104.out 1).trans rfl; have hcz5_2 : w4.cell? ⟨gb104, 2, none⟩ = some (.int .i64 0) := (blk_cell BK104.out 2).trans rfl; have hcz5_3 : w4.cell? ⟨gb104, 3, none⟩ = some (.int .i64 0) := (blk_cell BK104.out 3).trans rfl; have hcz5_4 : w4.cell? ⟨gb104, 4, none⟩ = some (.int .i64 0) := (blk_cell BK104.out 4).trans rfl; have hcz5_5 : w4.cell? ⟨gb104, 5, none⟩ = some (.int .i64 0) := (blk_cell BK104.out 5).trans rfl; have hcz5_6 : w4.cell? ⟨gb104, 6, none⟩ = some (.int .i64 0) := (blk_cell BK104.out 6).trans rfl; have hcz5_7 : w4.cell? ⟨gb104, 7, none⟩ = some (.int .i64 0) := (blk_cell BK104.out 7).trans rfl; have hcz5_8 : w4.cell? ⟨gb104, 8, none⟩ = some (.int .i64 0) := (blk_cell BK104.out 8).trans rfl; have hcz5_9 : w4.cell? ⟨gb104, 9, none⟩ = some (.int .i64 0) := (blk_cell BK104.out 9).trans rfl; have hcz5_10 : w4.cell? ⟨gb104, 10, none⟩ = some (.int .i64 0) := (blk_cell BK104.out 10).trans rfl; have hcz5_11 : w4.cell? ⟨gb104, 11, none⟩ = some (.int .i64 0) := (blk_cell BK104.out 11).trans rfl; have hcz5_12 : w4.cell? ⟨gb104, 12, none⟩ = some (.int .i64 0) := (blk_cell BK104.out 12).trans rfl; have hfz5_0 := blk_frozen BK104.out 0; have hfz5_1 := blk_frozen BK104.out 1; have hfz5_2 := blk_frozen BK104.out 2; have hfz5_3 := blk_frozen BK104.out 3; have hfz5_4 := blk_frozen BK104.out 4; have hfz5_5 := blk_frozen BK104.out 5; have hfz5_6 := blk_frozen BK104.out 6; have hfz5_7 := blk_frozen BK104.out 7; have hfz5_8 := blk_frozen BK104.out 8; have hfz5_9 := blk_frozen BK104.out 9; have hfz5_10 := blk_frozen BK104.out 10; have hfz5_11 := blk_frozen BK104.out 11; have hfz5_12 := blk_frozen BK104.out 12))
 (try simp only [Act.put, List.setIfInBounds_toArray, List.set_cons_zero, List.set_cons_succ])
 go_cut [12] (fun v12 wc => ∃ (kq : Nat) (x12_2 : Bool), v12 = .bool x12_2 ∧ Aside0 (domesdayref04_Days.j0 kq a0 a1 x12_2 0 31 28 31 30 31 30 31 31 30 31 30 31 = some r) ∧ Aside0 (kq ≤ k) ∧ Aside0 (wc.heap[gb104]? = some (.cells #[.int .i64 0, .int .i64 31, .int .i64 28, .int .i64 31, .int .i64 30, .int .i64 31, .int .i64 30, .int .i64 31, .int .i64 31, .int .i64 30, .int .i64 31, .int .i64 30, .int .i64 31] 84 (0, 0))) ∧ Aside0 (Below w.heap.size w wc))
 case first =>
  have H := HC3.out
  clear HC3
  by_cases c6 : a1 < 1
  ·rw [if_pos c6] at H
   have c6b0 : decide (a1 < 1) = true := decide_eq_true c6
   clear c6
   (first | rw [c6b0] | (simp only [i64_w, i32_w]; rw [c6b0]) | skip)
   have H' := Aside0.mk H
   clear H
   go_wp2
   go_meet
   case rel => exact ⟨_, (true), (by first | rfl | (simp; done) | (simp [*]; done)), H', ⟨by first | omega | exact Nat.le_refl _⟩, ⟨by (with_reducible repeat (first | refine blk_drewN ?_ _ | refine blk_drew ?_ | refine blk_alloc ?_ _)); refine blk_put (cs := #[.int .i64 0, .int .i64 31, .int .i64 28, .int .i64 31, .int .i64 30, .int .i64 31, .int .i64 30, .int .i64 31, .int .i64 31, .int .i64 30, .int .i64 31, .int .i64 30, .int .i64 0]) ?_ 12 _ (by first | rfl | (simp; done)); (with_reducible repeat (first | refine blk_drewN ?_ _ | refine blk_drew ?_ | refine blk_alloc ?_ _)); refine blk_put (cs := #[.int .i64 0, .int .i64 31, .int .i64 28, .int .i64 31, .int .i64 30, .int .i64 31, .int .i64 30, .int .i64 31, .int .i64 31, .int .i64 30, .int .i64 31, .int .i64 0, .int .i64 0]) ?_ 11 _ (by first | rfl | (simp; done)); (with_reducible repeat (first | refine blk_drewN ?_ _ | refine blk_drew ?_ | refine blk_alloc ?_ _)); refine blk_put (cs := #[.int .i64 0, .int .i64 31, .int .i64 28, .int .i64 31, .int .i64 30, .int .i64 31, .int .i64 30, .int .i64 31, .int .i64 31, .int .i64 30, .int .i64 0, .int .i64 0, .int .i64 0]) ?_ 10 _ (by first | rfl | (simp; done)); (with_reducible repeat (first | refine blk_drewN ?_ _ | refine blk_drew ?_ | refine blk_alloc ?_ _)); refine blk_put (cs := #[.int .i64 0, .int .i64 31, .int .i64 28, .int .i64 31, .int .i64 30, .int .i64 31, .int .i64 30, .int .i64 31, .int .i64 31, .int .i64 0, .int .i64 0, .int .i64 0, .int .i64 0]) ?_ 9 _ (by first | rfl | (simp; done)); (with_reducible repeat (first | refine blk_drewN ?_ _ | refine blk_drew ?_ | refine blk_alloc ?_ _)); refine blk_put (cs := #[.int .i64 0, .int .i64 31, .int .i64 28, .int .i64 31, .int .i64 30, .int .i64 31, .int .i64 30, .int .i64 31, .int .i64 0, .int .i64 0, .int .i64 0, .int .i64 0, .int .i64 0]) ?_ 8 _ (by first | rfl | (simp; done)); (with_reducible repeat (first | refine blk_drewN ?_ _ | refine blk_drew ?_ | refine blk_alloc ?_ _)); refine blk_put (cs := #[.int .i64 0, .int .i64 31, .int .i64 28, .int .i64 31, .int .i64 30, .int .i64 31, .int .i64 30, .int .i64 0, .int .i64 0, .int .i64 0, .int .i64 0, .int .i64 0, .int .i64 0]) ?_ 7 _ (by first | rfl | (simp; done)); (with_reducible repeat (first | refine blk_drewN ?_ _ | refine blk_drew ?_ | refine blk_alloc ?_ _)); refine blk_put (cs := #[.int .i64 0, .int .i64 31, .int .i64 28, .int .i64 31, .int .i64 30, .int .i64 31, .int .i64 0, .int .i64 0, .int .i64 0, .int .i64 0, .int .i64 0, .int .i64 0, .int .i64 0]) ?_ 6 _ (by first | rfl | (simp; done)); (with_reducible repeat (first | refine blk_drewN ?_ _ | refine blk_drew ?_ | refine blk_alloc ?_ _)); refine blk_put (cs := #[.int .i64 0, .int .i64 31, .int .i64 28, .int .i64 31, .int .i64 30, .int .i64 0, .int .i64 0, .int .i64 0, .int .i64 0, .int .i64 0, .int .i64 0, .int .i64 0, .int .i64 0]) ?_ 5 _ (by first | rfl | (simp; done)); (with_reducible repeat (first | refine blk_drewN ?_ _ | refine blk_drew ?_ | refine blk_alloc ?_ _)); refine blk_put (cs := #[.int .i64 0, .int .i64 31, .int .i64 28, .int .i64 31, .int .i64 0, .int .i64 0, .int .i64 0, .int .i64 0, .int .i64 0, .int .i64 0, .int .i64 0, .int .i64 0, .int .i64 0]) ?_ 4 _ (by first | rfl | (simp; done)); (with_reducible repeat (first | refine blk_drewN ?_ _ | refine blk_drew ?_ | refine blk_alloc ?_ _)); refine blk_put (cs := #[.int .i64 0, .int .i64 31, .int .i64 28, .int .i64 0, .int .i64 0, .int .i64 0, .int .i64 0, .int .i64 0, .int .i64 0, .int .i64 0, .int .i64 0, .int .i64 0, .int .i64 0]) ?_ 3 _ (by first | rfl | (simp; done)); (with_reducible repeat (first | refine blk_drewN ?_ _ | refine blk_drew ?_ | refine blk_alloc ?_ _)); refine blk_put (cs := #[.int .i64 0, .int .i64 31, .int .i64 0, .int .i64 0, .int .i64 0, .int .i64 0, .int .i64 0, .int .i64 0, .int .i64 0, .int .i64 0, .int .i64 0, .int .i64 0, .int .i64 0]) ?_ 2 _ (by first | rfl | (simp; done)); (with_reducible repeat (first | refine blk_drewN ?_ _ | refine blk_drew ?_ | refine blk_alloc ?_ _)); refine blk_put (cs := #[.int .i64 0, .int .i64 0, .int .i64 0, .int .i64 0, .int .i64 0, .int .i64 0, .int .i64 0, .int .i64 0, .int .i64 0, .int .i64 0, .int .i64 0, .int .i64 0, .int .i64 0]) ?_ 1 _ (by first | rfl | (simp; done)); (with_reducible repeat (first | refine blk_drewN ?_ _ | refine blk_drew ?_ | refine blk_alloc ?_ _)); refine blk_put (cs := #[.int .i64 0, .int .i64 0, .int .i64 0, .int .i64 0, .int .i64 0, .int .i64 0, .int .i64 0, .int .i64 0, .int .i64 0, .int .i64 0, .int .i64 0, .int .i64 0, .int .i64 0]) ?_ 0 _ (by first | rfl | (simp; done)); (with_reducible repeat (first | refine blk_drewN ?_ _ | refine blk_drew ?_ | refine blk_alloc ?_ _)); exact BK104.out⟩, ⟨by repeat (first | (with_reducible first | exact HB.out | apply below_alloc | apply pw_below_drewN | apply below_drew1 | refine below_set ?_ GE104.out) | exact HB.out)⟩⟩
  ·rw [if_neg c6] at H
   have c6b0 : decide (a1 < 1) = false := decide_eq_false c6
   clear c6
   (first | rw [c6b0] | (simp only [i64_w, i32_w]; rw [c6b0]) | skip)
   have H' := Aside0.mk H
   clear H
   go_wp2
   go_meet
   case rel => exact ⟨_, (decide (a1 > 12)), (by first | rfl | (simp; done) | (simp [*]; done)), H', ⟨by first | omega | exact Nat.le_refl _⟩, ⟨by (with_reducible repeat (first | refine blk_drewN ?_ _ | refine blk_drew ?_ | refine blk_alloc ?_ _)); refine blk_put (cs := #[.int .i64 0, .int .i64 31, .int .i64 28, .int .i64 31, .int .i64 30, .int .i64 31, .int .i64 30, .int .i64 31, .int .i64 31, .int .i64 30, .int .i64 31, .int .i64 30, .int .i64 0]) ?_ 12 _ (by first | rfl | (simp; done)); (with_reducible repeat (first | refine blk_drewN ?_ _ | refine blk_drew ?_ | refine blk_alloc ?_ _)); refine blk_put (cs := #[.int .i64 0, .int .i64 31, .int .i64 28, .int .i64 31, .int .i64 30, .int .i64 31, .int .i64 30, .int .i64 31, .int .i64 31, .int .i64 30, .int .i64 31, .int .i64 0, .int .i64 0]) ?_ 11 _ (by first | rfl | (simp; done)); (with_reducible repeat (first | refine blk_drewN ?_ _ | refine blk_drew ?_ | refine blk_alloc ?_ _)); refine blk_put (cs := #[.int .i64 0, .int .i64 31, .int .i64 28, .int .i64 31, .int .i64 30, .int .i64 31, .int .i64 30, .int .i64 31, .int .i64 31, .int .i64 30, .int .i64 0, .int .i64 0, .int .i64 0]) ?_ 10 _ (by first | rfl | (simp; done)); (with_reducible repeat (first | refine blk_drewN ?_ _ | refine blk_drew ?_ | refine blk_alloc ?_ _)); refine blk_put (cs := #[.int .i64 0, .int .i64 31, .int .i64 28, .int .i64 31, .int .i64 30, .int .i64 31, .int .i64 30, .int .i64 31, .int .i64 31, .int .i64 0, .int .i64 0, .int .i64 0, .int .i64 0]) ?_ 9 _ (by first | rfl | (simp; done)); (with_reducible repeat (first | refine blk_drewN ?_ _ | refine blk_drew ?_ | refine blk_alloc ?_ _)); refine blk_put (cs := #[.int .i64 0, .int .i64 31, .int .i64 28, .int .i64 31, .int .i64 30, .int .i64 31, .int .i64 30, .int .i64 31, .int .i64 0, .int .i64 0, .int .i64 0, .int .i64 0, .int .i64 0]) ?_ 8 _ (by first | rfl | (simp; done)); (with_reducible repeat (first | refine blk_drewN ?_ _ | refine blk_drew ?_ | refine blk_alloc ?_ _)); refine blk_put (cs := #[.int .i64 0, .int .i64 31, .int .i64 28, .int .i64 31, .int .i64 30, .int .i64 31, .int .i64 30, .int .i64 0, .int .i64 0, .int .i64 0, .int .i64 0, .int .i64 0, .int .i64 0]) ?_ 7 _ (by first | rfl | (simp; done)); (with_reducible repeat (first | refine blk_drewN ?_ _ | refine blk_drew ?_ | refine blk_alloc ?_ _)); refine blk_put (cs := #[.int .i64 0, .int .i64 31, .int .i64 28, .int .i64 31, .int .i64 30, .int .i64 31, .int .i64 0, .int .i64 0, .int .i64 0, .int .i64 0, .int .i64 0, .int .i64 0, .int .i64 0]) ?_ 6 _ (by first | rfl | (simp; done)); (with_reducible repeat (first | refine blk_drewN ?_ _ | refine blk_drew ?_ | refine blk_alloc ?_ _)); refine blk_put (cs := #[.int .i64 0, .int .i64 31, .int .i64 28, .int .i64 31, .int .i64 30, .int .i64 0, .int .i64 0, .int .i64 0, .int .i64 0, .int .i64 0, .int .i64 0, .int .i64 0, .int .i64 0]) ?_ 5 _ (by first | rfl | (simp; done)); (with_reducible repeat (first | refine blk_drewN ?_ _ | refine blk_drew ?_ | refine blk_alloc ?_ _)); refine blk_put (cs := #[.int .i64 0, .int .i64 31, .int .i64 28, .int .i64 31, .int .i64 0, .int .i64 0, .int .i64 0, .int .i64 0, .int .i64 0, .int .i64 0, .int .i64 0, .int .i64 0, .int .i64 0]) ?_ 4 _ (by first | rfl | (simp; done)); (with_reducible repeat (first | refine blk_drewN ?_ _ | refine blk_drew ?_ | refine blk_alloc ?_ _)); refine blk_put (cs := #[.int .i64 0, .int .i64 31, .int .i64 28, .int .i64 0, .int .i64 0, .int .i64 0, .int .i64 0, .int .i64 0, .int .i64 0, .int .i64 0, .int .i64 0, .int .i64 0, .int .i64 0]) ?_ 3 _ (by first | rfl | (simp; done)); (with_reducible repeat (first | refine blk_drewN ?_ _ | refine blk_drew ?_ | refine blk_alloc ?_ _)); refine blk_put (cs := #[.int .i64 0, .int .i64 31, .int .i64 0, .int .i64 0, .int .i64 0, .int .i64 0, .int .i64 0, .int .i64 0, .int .i64 0, .int .i64 0, .int .i64 0, .int .i64 0, .int .i64 0]) ?_ 2 _ (by first | rfl | (simp; done)); (with_reducible repeat (first | refine blk_drewN ?_ _ | refine blk_drew ?_ | refine blk_alloc ?_ _)); refine blk_put (cs := #[.int .i64 0, .int .i64 0, .int .i64 0, .int .i64 0, .int .i64 0, .int .i64 0, .int .i64 0, .int .i64 0, .int .i64 0, .int .i64 0, .int .i64 0, .int .i64 0, .int .i64 0]) ?_ 1 _ (by first | rfl | (simp; done)); (with_reducible repeat (first | refine blk_drewN ?_ _ | refine blk_drew ?_ | refine blk_alloc ?_ _)); refine blk_put (cs := #[.int .i64 0, .int .i64 0, .int .i64 0, .int .i64 0, .int .i64 0, .int .i64 0, .int .i64 0, .int .i64 0, .int .i64 0, .int .i64 0, .int .i64 0, .int .i64 0, .int .i64 0]) ?_ 0 _ (by first | rfl | (simp; done)); (with_reducible repeat (first | refine blk_drewN ?_ _ | refine blk_drew ?_ | refine blk_alloc ?_ _)); exact BK104.out⟩, ⟨by repeat (first | (with_reducible first | exact HB.out | apply below_alloc | apply pw_below_drewN | apply below_drew1 | refine below_set ?_ GE104.out) | exact HB.out)⟩⟩
 case rest =>
  clear HC3
  (try clear p2); (try clear c4); (try clear c6); (try clear c6b0); (try clear hcz5_0); (try clear hcz5_1); (try clear hcz5_10); (try clear hcz5_11); (try clear hcz5_12); (try clear hcz5_2); (try clear hcz5_3); (try clear hcz5_4); (try clear hcz5_5); (try clear hcz5_6); (try clear hcz5_7); (try clear hcz5_8); (try clear hcz5_9); (try clear hfz5_0); (try clear hfz5_1); (try clear hfz5_10); (try clear hfz5_11); (try clear hfz5_12); (try clear hfz5_2); (try clear hfz5_3); (try clear hfz5_4); (try clear hfz5_5); (try clear hfz5_6); (try clear hfz5_7); (try clear hfz5_8); (try clear hfz5_9)
  obtain ⟨kq, x12_2, rfl, HA, HJ2, BK104, HB⟩ := hcut
  cases kq with
  | zero => exact absurd HA.out (by simp [domesdayref04_Days.j0])
  | succ kj2 =>
   have H := HA.out
   clear HA
   simp only [domesdayref04_Days.j0] at H
   by_cases c7 : x12_2 = true
   ·subst c7
    have H1 : (some 0) = some r := by rw [if_pos rfl] at H; exact H
    clear H
    have H := H1
    clear H1
    obtain rfl := Option.some.inj H
    go_wp2
    go_ret
    exact ⟨by first | rfl | (simp [errW_none, errW_some] <;> rfl) | (simp [*, errW_none, errW_some] <;> rfl), by repeat (first | (with_reducible first | exact HB.out | apply below_alloc | apply pw_below_drewN | apply below_drew1 | refine below_set ?_ GE104.out) | exact HB.out)⟩
   ·replace c7 := Bool.eq_false_iff.mpr c7
    subst c7
    have H1 : (if a1 = 2 then ((domesdayref04_Leap.f a0).bind fun t105 => (if t105 = true then (some 29) else (if 0 ≤ a1 then (if a1 < 13 then (some (rd [0, 31, 28, 31, 30, 31, 30, 31, 31, 30, 31, 30, 31] a1)) else (none)) else (none)))) else (if 0 ≤ a1 then (if a1 < 13 then (some (rd [0, 31, 28, 31, 30, 31, 30, 31, 31, 30, 31, 30, 31] a1)) else (none)) else (none))) = some r := by rw [if_neg (show ¬ (false = true) by decide)] at H; exact H
    clear H
    have H := H1
    clear H1
    by_cases c8 : a1 = 2
    ·rw [if_pos c8] at H
     have c8b0 : (a1 == 2) = true := beq_iff_eq.mpr c8
     have c8b1 : (a1 != 2) = false := bne_eq_false_iff_eq.mpr c8
     clear c8
     replace H := Option.bind_eq_some_iff.mp H
     obtain ⟨t105, A90, H⟩ := H
     replace H : (if t105 = true then (some 29) else (if 0 ≤ a1 then (if a1 < 13 then (some (rd [0, 31, 28, 31, 30, 31, 30, 31, 31, 30, 31, 30, 31] a1)) else (none)) else (none))) = some r := H
     have A9 := Aside0.mk A90
     clear A90
     by_cases c10 : t105 = true
     ·subst c10
      have H1 : (some 29) = some r := by rw [if_pos rfl] at H; exact H
      clear H
      have H := H1
      clear H1
      obtain rfl := Option.some.inj H
      go_wp2_with (first | (go_at_call 52; (with_reducible refine (domesdayref04_Leap.calls a0 true _ A9.out).mono ?_); rintro e w' ⟨rfl, ⟨nd, rfl⟩⟩))
      go_ret
      exact ⟨by first | rfl | (simp [errW_none, errW_some] <;> rfl) | (simp [*, errW_none, errW_some] <;> rfl), by repeat (first | (with_reducible first | exact HB.out | apply below_alloc | apply pw_below_drewN | apply below_drew1 | refine below_set ?_ GE104.out) | exact HB.out)⟩
     ·replace c10 := Bool.eq_false_iff.mpr c10
      subst c10
      have H1 : (if 0 ≤ a1 then (if a1 < 13 then (some (rd [0, 31, 28, 31, 30, 31, 30, 31, 31, 30, 31, 30, 31] a1)) else (none)) else (none)) = some r := by rw [if_neg (show ¬ (false = true) by decide)] at H; exact H
      clear H
      have H := H1
      clear H1
      by_cases c11 : 0 ≤ a1
      ·rw [if_pos c11] at H
       have c11b0 : decide (0 ≤ a1) = true := decide_eq_true c11
       clear c11
       by_cases c12 : a1 < 13
       ·rw [if_pos c12] at H
        have c12b0 : decide (a1 < 13) = true := decide_eq_true c12
        clear c12
        obtain rfl := Option.some.inj H
        go_wp2_with (first | (go_at_call 52; (with_reducible refine (domesdayref04_Leap.calls a0 false _ A9.out).mono ?_); rintro e w' ⟨rfl, ⟨nd, rfl⟩⟩; have hcz13_0 : wc.cell? ⟨gb104, 0, none⟩ = some (.int .i64 0) := (blk_cell BK104.out 0).trans rfl; have hcz13_1 : wc.cell? ⟨gb104, 1, none⟩ = some (.int .i64 31) := (blk_cell BK104.out 1).trans rfl; have hcz13_2 : wc.cell? ⟨gb104, 2, none⟩ = some (.int .i64 28) := (blk_cell BK104.out 2).trans rfl; have hcz13_3 : wc.cell? ⟨gb104, 3, none⟩ = some (.int .i64 31) := (blk_cell BK104.out 3).trans rfl; have hcz13_4 : wc.cell? ⟨gb104, 4, none⟩ = some (.int .i64 30) := (blk_cell BK104.out 4).trans rfl; have hcz13_5 : wc.cell? ⟨gb104, 5, none⟩ = some (.int .i64 31) := (blk_cell BK104.out 5).trans rfl; have hcz13_6 : wc.cell? ⟨gb104, 6, none⟩ = some (.int .i64 30) := (blk_cell BK104.out 6).trans rfl; have hcz13_7 : wc.cell? ⟨gb104, 7, none⟩ = some (.int .i64 31) := (blk_cell BK104.out 7).trans rfl; have hcz13_8 : wc.cell? ⟨gb104, 8, none⟩ = some (.int .i64 31) := (blk_cell BK104.out 8).trans rfl; have hcz13_9 : wc.cell? ⟨gb104, 9, none⟩ = some (.int .i64 30) := (blk_cell BK104.out 9).trans rfl; have hcz13_10 : wc.cell? ⟨gb104, 10, none⟩ = some (.int .i64 31) := (blk_cell BK104.out 10).trans rfl; have hcz13_11 : wc.cell? ⟨gb104, 11, none⟩ = some (.int .i64 30) := (blk_cell BK104.out 11).trans rfl; have hcz13_12 : wc.cell? ⟨gb104, 12, none⟩ = some (.int .i64 31) := (blk_cell BK104.out 12).trans rfl; have hfz13_0 := blk_frozen BK104.out 0; have hfz13_1 := blk_frozen BK104.out 1; have hfz13_2 := blk_frozen BK104.out 2; have hfz13_3 := blk_frozen BK104.out 3; have hfz13_4 := blk_frozen BK104.out 4; have hfz13_5 := blk_frozen BK104.out 5; have hfz13_6 := blk_frozen BK104.out 6; have hfz13_7 := blk_frozen BK104.out 7; have hfz13_8 := blk_frozen BK104.out 8; have hfz13_9 := blk_frozen BK104.out 9; have hfz13_10 := blk_frozen BK104.out 10; have hfz13_11 := blk_frozen BK104.out 11; have hfz13_12 := blk_frozen BK104.out 12; have p14 : 0 ≤ (a1 : Int) := of_decide_eq_true (by first | (with_reducible assumption) | assumption); have q14 : a1 < (13 : Int) := of_decide_eq_true (by first | (with_reducible assumption) | assumption); have hj14 : wc.cell? ⟨gb104, (a1).toNat, none⟩ = some (.int .i64 (rd [0, 31, 28, 31, 30, 31, 30, 31, 31, 30, 31, 30, 31] a1)) := arr_cell_int0 0 [0, 31, 28, 31, 30, 31, 30, 31, 31, 30, 31, 30, 31] rfl BK104.out a1 p14 q14; have hk14 : wc.cell? ((⟨gb104, 0, none⟩ : Addr).add (a1).toNat) = some (.int .i64 (rd [0, 31, 28, 31, 30, 31, 30, 31, 31, 30, 31, 30, 31] a1)) := (by rw [add_at0]; rw [Nat.zero_add]; exact hj14); replace p14 := eq_true p14; replace q14 := eq_true q14))
        go_ret
        exact ⟨by first | rfl | (simp [errW_none, errW_some] <;> rfl) | (simp [*, errW_none, errW_some] <;> rfl), by repeat (first | (with_reducible first | exact HB.out | apply below_alloc | apply pw_below_drewN | apply below_drew1 | refine below_set ?_ GE104.out) | exact HB.out)⟩
       ·rw [if_neg c12] at H
        exact absurd H (by simp)
      ·rw [if_neg c11] at H
       exact absurd H (by simp)
    ·rw [if_neg c8] at H
     have c8b0 : (a1 == 2) = false := beq_eq_false_iff_ne.mpr c8
     have c8b1 : (a1 != 2) = true := bne_iff_ne.mpr c8
     by_cases c15 : 0 ≤ a1
     ·rw [if_pos c15] at H
      have c15b0 : decide (0 ≤ a1) = true := decide_eq_true c15
      clear c15
      by_cases c16 : a1 < 13
      ·rw [if_pos c16] at H
       have c16b0 : decide (a1 < 13) = true := decide_eq_true c16
       clear c16
       obtain rfl := Option.some.inj H
       have hcz17_0 : wc.cell? ⟨gb104, 0, none⟩ = some (.int .i64 0) := (blk_cell BK104.out 0).trans rfl; have hcz17_1 : wc.cell? ⟨gb104, 1, none⟩ = some (.int .i64 31) := (blk_cell BK104.out 1).trans rfl; have hcz17_2 : wc.cell? ⟨gb104, 2, none⟩ = some (.int .i64 28) := (blk_cell BK104.out 2).trans rfl; have hcz17_3 : wc.cell? ⟨gb104, 3, none⟩ = some (.int .i64 31) := (blk_cell BK104.out 3).trans rfl; have hcz17_4 : wc.cell? ⟨gb104, 4, none⟩ = some (.int .i64 30) := (blk_cell BK104.out 4).trans rfl; have hcz17_5 : wc.cell? ⟨gb104, 5, none⟩ = some (.int .i64 31) := (blk_cell BK104.out 5).trans rfl; have hcz17_6 : wc.cell? ⟨gb104, 6, none⟩ = some (.int .i64 30) := (blk_cell BK104.out 6).trans rfl; have hcz17_7 : wc.cell? ⟨gb104, 7, none⟩ = some (.int .i64 31) := (blk_cell BK104.out 7).trans rfl; have hcz17_8 : wc.cell? ⟨gb104, 8, none⟩ = some (.int .i64 31) := (blk_cell BK104.out 8).trans rfl; have hcz17_9 : wc.cell? ⟨gb104, 9, none⟩ = some (.int .i64 30) := (blk_cell BK104.out 9).trans rfl; have hcz17_10 : wc.cell? ⟨gb104, 10, none⟩ = some (.int .i64 31) := (blk_cell BK104.out 10).trans rfl; have hcz17_11 : wc.cell? ⟨gb104, 11, none⟩ = some (.int .i64 30) := (blk_cell BK104.out 11).trans rfl; have hcz17_12 : wc.cell? ⟨gb104, 12, none⟩ = some (.int .i64 31) := (blk_cell BK104.out 12).trans rfl; have hfz17_0 := blk_frozen BK104.out 0; have hfz17_1 := blk_frozen BK104.out 1; have hfz17_2 := blk_frozen BK104.out 2; have hfz17_3 := blk_frozen BK104.out 3; have hfz17_4 := blk_frozen BK104.out 4; have hfz17_5 := blk_frozen BK104.out 5; have hfz17_6 := blk_frozen BK104.out 6; have hfz17_7 := blk_frozen BK104.out 7; have hfz17_8 := blk_frozen BK104.out 8; have hfz17_9 := blk_frozen BK104.out 9; have hfz17_10 := blk_frozen BK104.out 10; have hfz17_11 := blk_frozen BK104.out 11; have hfz17_12 := blk_frozen BK104.out 12
       have p18 : 0 ≤ (a1 : Int) := of_decide_eq_true (by first | (with_reducible assumption) | assumption)
       have q18 : a1 < (13 : Int) := of_decide_eq_true (by first | (with_reducible assumption) | assumption)
       have hj18 : wc.cell? ⟨gb104, (a1).toNat, none⟩ = some (.int .i64 (rd [0, 31, 28, 31, 30, 31, 30, 31, 31, 30, 31, 30, 31] a1)) := arr_cell_int0 0 [0, 31, 28, 31, 30, 31, 30, 31, 31, 30, 31, 30, 31] rfl BK104.out a1 p18 q18
       have hk18 : wc.cell? ((⟨gb104, 0, none⟩ : Addr).add (a1).toNat) = some (.int .i64 (rd [0, 31, 28, 31, 30, 31, 30, 31, 31, 30, 31, 30, 31] a1)) := (by rw [add_at0]; rw [Nat.zero_add]; exact hj18)
       replace p18 := eq_true p18
       replace q18 := eq_true q18
       go_wp2
       go_ret
       exact ⟨by first | rfl | (simp [errW_none, errW_some] <;> rfl) | (simp [*, errW_none, errW_some] <;> rfl), by repeat (first | (with_reducible first | exact HB.out | apply below_alloc | apply pw_below_drewN | apply below_drew1 | refine below_set ?_ GE104.out) | exact HB.out)⟩
      ·rw [if_neg c16] at H
       exact absurd H (by simp)
     ·rw [if_neg c15] at H
      exact absurd H (by simp)
/-! ### domesdayref04_Of: function 31 -/
mutual
def domesdayref04_Of.j0 : Nat → Int → Int → Int → Option (Int × Int × Int × Int × Int × Int × Int × Int)
 | 0, _, _, _ => none
 | k + 1, x1, x5, x6 => if (wrap64 (x6 + (mx (mn x1 86400) (-86400)))) < 0 then (domesdayref04_Of.j1 k x5 (wrap64 ((wrap64 (x6 + (mx (mn x1 86400) (-86400)))) + 86400)) (-1)) else (domesdayref04_Of.j1 k x5 (wrap64 (x6 + (mx (mn x1 86400) (-86400)))) 0)
def domesdayref04_Of.j1 : Nat → Int → Int → Int → Option (Int × Int × Int × Int × Int × Int × Int × Int)
 | 0, _, _, _ => none
 | k + 1, x5, x6, x7 => domesdayref04_Of.l0 k x5 (Int.tmod x6 86400) (wrap64 (x7 + (wrap64 (Int.tdiv x6 86400)))) 1970 1 1 0 0 0 (Int.tmod (wrap64 ((Int.tmod (wrap64 (x7 + (wrap64 (Int.tdiv x6 86400)))) 7) + 11)) 7) 0
def domesdayref04_Of.l0 : Nat → Int → Int → Int → Int → Int → Int → Int → Int → Int → Int → Int → Option (Int × Int × Int × Int × Int × Int × Int × Int)
 | 0, _, _, _, _, _, _, _, _, _, _, _ => none
 | k + 1, x5, x6, x7, x108000, x108001, x108002, x108003, x108004, x108005, x108006, x108007 => if x7 < 0 then ((domesdayref04_year.f (wrap64 (x108000 - 1))).bind fun t108 => (domesdayref04_Of.l0 k x5 x6 (wrap64 (x7 + t108)) (wrap64 (x108000 - 1)) x108001 x108002 x108003 x108004 x108005 x108006 x108007)) else (domesdayref04_Of.l1 k x5 x6 x7 x108000 x108001 x108002 x108003 x108004 x108005 x108006 x108007)
def domesdayref04_Of.l1 : Nat → Int → Int → Int → Int → Int → Int → Int → Int → Int → Int → Int → Option (Int × Int × Int × Int × Int × Int × Int × Int)
 | 0, _, _, _, _, _, _, _, _, _, _, _ => none
 | k + 1, x5, x6, x7, x108000, x108001, x108002, x108003, x108004, x108005, x108006, x108007 => (domesdayref04_year.f x108000).bind fun t109 => (if x7 ≥ t109 then ((domesdayref04_year.f x108000).bind fun t110 => (domesdayref04_Of.l1 k x5 x6 (wrap64 (x7 - t110)) (wrap64 (x108000 + 1)) x108001 x108002 x108003 x108004 x108005 x108006 x108007)) else (domesdayref04_Of.l2 k x5 x6 x7 x108000 x108001 x108002 x108003 x108004 x108005 x108006 (wrap64 (x7 + 1))))
def domesdayref04_Of.l2 : Nat → Int → Int → Int → Int → Int → Int → Int → Int → Int → Int → Int → Option (Int × Int × Int × Int × Int × Int × Int × Int)
 | 0, _, _, _, _, _, _, _, _, _, _, _ => none
 | k + 1, x5, x6, x7, x108000, x108001, x108002, x108003, x108004, x108005, x108006, x108007 => (domesdayref04_Days.f k x108000 x108001).bind fun t111 => (if x7 ≥ t111 then ((domesdayref04_Days.f k x108000 x108001).bind fun t112 => (domesdayref04_Of.l2 k x5 x6 (wrap64 (x7 - t112)) x108000 (wrap64 (x108001 + 1)) x108002 x108003 x108004 x108005 x108006 x108007)) else (some (wrap64 (x108000 + (wrap64 (400 * x5))), x108001, wrap64 (x7 + 1), wrap64 (Int.tdiv x6 3600), Int.tmod (wrap64 (Int.tdiv x6 60)) 60, Int.tmod x6 60, x108006, x108007)))
end
def domesdayref04_Of.f (k : Nat) (a0 : Int) (a1 : Int) : Option (Int × Int × Int × Int × Int × Int × Int × Int) := if (wrap64 (a0 - (wrap64 ((wrap64 (Int.tdiv a0 12622780800)) * 12622780800)))) < 0 then (domesdayref04_Of.j0 k a1 (wrap64 ((wrap64 (Int.tdiv a0 12622780800)) - 1)) (wrap64 ((wrap64 (a0 - (wrap64 ((wrap64 (Int.tdiv a0 12622780800)) * 12622780800)))) + 12622780800))) else (domesdayref04_Of.j0 k a1 (wrap64 (Int.tdiv a0 12622780800)) (wrap64 (a0 - (wrap64 ((wrap64 (Int.tdiv a0 12622780800)) * 12622780800)))))
theorem domesdayref04_Of.mono_l : ∀ k, (∀ y0 y1 y2, LeO (domesdayref04_Of.j0 k y0 y1 y2) (domesdayref04_Of.j0 (k + 1) y0 y1 y2)) ∧ (∀ y0 y1 y2, LeO (domesdayref04_Of.j1 k y0 y1 y2) (domesdayref04_Of.j1 (k + 1) y0 y1 y2)) ∧ (∀ y0 y1 y2 y3 y4 y5 y6 y7 y8 y9 y10, LeO (domesdayref04_Of.l0 k y0 y1 y2 y3 y4 y5 y6 y7 y8 y9 y10) (domesdayref04_Of.l0 (k + 1) y0 y1 y2 y3 y4 y5 y6 y7 y8 y9 y10)) ∧ (∀ y0 y1 y2 y3 y4 y5 y6 y7 y8 y9 y10, LeO (domesdayref04_Of.l1 k y0 y1 y2 y3 y4 y5 y6 y7 y8 y9 y10) (domesdayref04_Of.l1 (k + 1) y0 y1 y2 y3 y4 y5 y6 y7 y8 y9 y10)) ∧ (∀ y0 y1 y2 y3 y4 y5 y6 y7 y8 y9 y10, LeO (domesdayref04_Of.l2 k y0 y1 y2 y3 y4 y5 y6 y7 y8 y9 y10) (domesdayref04_Of.l2 (k + 1) y0 y1 y2 y3 y4 y5 y6 y7 y8 y9 y10))
 | 0 => ⟨fun _ _ _ r h => by simp [domesdayref04_Of.j0] at h, fun _ _ _ r h => by simp [domesdayref04_Of.j1] at h, fun _ _ _ _ _ _ _ _ _ _ _ r h => by simp [domesdayref04_Of.l0] at h, fun _ _ _ _ _ _ _ _ _ _ _ r h => by simp [domesdayref04_Of.l1] at h, fun _ _ _ _ _ _ _ _ _ _ _ r h => by simp [domesdayref04_Of.l2] at h⟩
 | k + 1 => by
  obtain ⟨ih0, ih1, ih2, ih3, ih4⟩ := domesdayref04_Of.mono_l k
  refine ⟨?_, ?_, ?_, ?_, ?_⟩
  ·intro y0 y1 y2
   unfold domesdayref04_Of.j0
   repeat' first
   | (with_reducible exact ih0 _ _ _)
   | (with_reducible exact ih1 _ _ _)
   | (with_reducible exact ih2 _ _ _ _ _ _ _ _ _ _ _)
   | (with_reducible exact ih3 _ _ _ _ _ _ _ _ _ _ _)
   | (with_reducible exact ih4 _ _ _ _ _ _ _ _ _ _ _)
   | (with_reducible exact domesdayref04_Days.mono _ _ _)
   | (with_reducible exact LeO.refl _)
   | (with_reducible exact LeO.none _)
   | (with_reducible refine LeO.ite ?_ ?_)
   | (with_reducible refine LeO.bind ?_ (fun _ => ?_))
   | exact ih0 _ _ _
   | exact ih1 _ _ _
   | exact ih2 _ _ _ _ _ _ _ _ _ _ _
   | exact ih3 _ _ _ _ _ _ _ _ _ _ _
   | exact ih4 _ _ _ _ _ _ _ _ _ _ _
   | exact domesdayref04_Days.mono _ _ _
   | exact LeO.none _
   | refine LeO.ite ?_ ?_
   | refine LeO.bind ?_ (fun _ => ?_)
  ·intro y0 y1 y2
   unfold domesdayref04_Of.j1
   repeat' first
   | (with_reducible exact ih0 _ _ _)
   | (with_reducible exact ih1 _ _ _)
   | (with_reducible exact ih2 _ _ _ _ _ _ _ _ _ _ _)
   | (with_reducible exact ih3 _ _ _ _ _ _ _ _ _ _ _)
   | (with_reducible exact ih4 _ _ _ _ _ _ _ _ _ _ _)
   | (with_reducible exact domesdayref04_Days.mono _ _ _)
   | (with_reducible exact LeO.refl _)
   | (with_reducible exact LeO.none _)
   | (with_reducible refine LeO.ite ?_ ?_)
   | (with_reducible refine LeO.bind ?_ (fun _ => ?_))
   | exact ih0 _ _ _
   | exact ih1 _ _ _
   | exact ih2 _ _ _ _ _ _ _ _ _ _ _
   | exact ih3 _ _ _ _ _ _ _ _ _ _ _
   | exact ih4 _ _ _ _ _ _ _ _ _ _ _
   | exact domesdayref04_Days.mono _ _ _
   | exact LeO.none _
   | refine LeO.ite ?_ ?_
   | refine LeO.bind ?_ (fun _ => ?_)
  ·intro y0 y1 y2 y3 y4 y5 y6 y7 y8 y9 y10
   unfold domesdayref04_Of.l0
   repeat' first
   | (with_reducible exact ih0 _ _ _)
   | (with_reducible exact ih1 _ _ _)
   | (with_reducible exact ih2 _ _ _ _ _ _ _ _ _ _ _)
   | (with_reducible exact ih3 _ _ _ _ _ _ _ _ _ _ _)
   | (with_reducible exact ih4 _ _ _ _ _ _ _ _ _ _ _)
   | (with_reducible exact domesdayref04_Days.mono _ _ _)
   | (with_reducible exact LeO.refl _)
   | (with_reducible exact LeO.none _)
   | (with_reducible refine LeO.ite ?_ ?_)
   | (with_reducible refine LeO.bind ?_ (fun _ => ?_))
   | exact ih0 _ _ _
   | exact ih1 _ _ _
   | exact ih2 _ _ _ _ _ _ _ _ _ _ _
   | exact ih3 _ _ _ _ _ _ _ _ _ _ _
   | exact ih4 _ _ _ _ _ _ _ _ _ _ _
   | exact domesdayref04_Days.mono _ _ _
   | exact LeO.none _
   | refine LeO.ite ?_ ?_
   | refine LeO.bind ?_ (fun _ => ?_)
  ·intro y0 y1 y2 y3 y4 y5 y6 y7 y8 y9 y10
   unfold domesdayref04_Of.l1
   repeat' first
   | (with_reducible exact ih0 _ _ _)
   | (with_reducible exact ih1 _ _ _)
   | (with_reducible exact ih2 _ _ _ _ _ _ _ _ _ _ _)
   | (with_reducible exact ih3 _ _ _ _ _ _ _ _ _ _ _)
   | (with_reducible exact ih4 _ _ _ _ _ _ _ _ _ _ _)
   | (with_reducible exact domesdayref04_Days.mono _ _ _)
   | (with_reducible exact LeO.refl _)
   | (with_reducible exact LeO.none _)
   | (with_reducible refine LeO.ite ?_ ?_)
   | (with_reducible refine LeO.bind ?_ (fun _ => ?_))
   | exact ih0 _ _ _
   | exact ih1 _ _ _
   | exact ih2 _ _ _ _ _ _ _ _ _ _ _
   | exact ih3 _ _ _ _ _ _ _ _ _ _ _
   | exact ih4 _ _ _ _ _ _ _ _ _ _ _
   | exact domesdayref04_Days.mono _ _ _
   | exact LeO.none _
   | refine LeO.ite ?_ ?_
   | refine LeO.bind ?_ (fun _ => ?_)
  ·intro y0 y1 y2 y3 y4 y5 y6 y7 y8 y9 y10
   unfold domesdayref04_Of.l2
   repeat' first
   | (with_reducible exact ih0 _ _ _)
   | (with_reducible exact ih1 _ _ _)
   | (with_reducible exact ih2 _ _ _ _ _ _ _ _ _ _ _)
   | (with_reducible exact ih3 _ _ _ _ _ _ _ _ _ _ _)
   | (with_reducible exact ih4 _ _ _ _ _ _ _ _ _ _ _)
   | (with_reducible exact domesdayref04_Days.mono _ _ _)
   | (with_reducible exact LeO.refl _)
   | (with_reducible exact LeO.none _)
   | (with_reducible refine LeO.ite ?_ ?_)
   | (with_reducible refine LeO.bind ?_ (fun _ => ?_))
   | exact ih0 _ _ _
   | exact ih1 _ _ _
   | exact ih2 _ _ _ _ _ _ _ _ _ _ _
   | exact ih3 _ _ _ _ _ _ _ _ _ _ _
   | exact ih4 _ _ _ _ _ _ _ _ _ _ _
   | exact domesdayref04_Days.mono _ _ _
   | exact LeO.none _
   | refine LeO.ite ?_ ?_
   | refine LeO.bind ?_ (fun _ => ?_)
theorem domesdayref04_Of.mono : ∀ a0 a1 k, LeO (domesdayref04_Of.f k a0 a1) (domesdayref04_Of.f (k + 1) a0 a1) := by
 intro a0 a1 k
 obtain ⟨ih0, ih1, ih2, ih3, ih4⟩ := domesdayref04_Of.mono_l k
 unfold domesdayref04_Of.f
 repeat' first
   | (with_reducible exact ih0 _ _ _)
   | (with_reducible exact ih1 _ _ _)
   | (with_reducible exact ih2 _ _ _ _ _ _ _ _ _ _ _)
   | (with_reducible exact ih3 _ _ _ _ _ _ _ _ _ _ _)
   | (with_reducible exact ih4 _ _ _ _ _ _ _ _ _ _ _)
   | (with_reducible exact domesdayref04_Days.mono _ _ _)
   | (with_reducible exact LeO.refl _)
   | (with_reducible exact LeO.none _)
   | (with_reducible refine LeO.ite ?_ ?_)
   | (with_reducible refine LeO.bind ?_ (fun _ => ?_))
   | exact ih0 _ _ _
   | exact ih1 _ _ _
   | exact ih2 _ _ _ _ _ _ _ _ _ _ _
   | exact ih3 _ _ _ _ _ _ _ _ _ _ _
   | exact ih4 _ _ _ _ _ _ _ _ _ _ _
   | exact domesdayref04_Days.mono _ _ _
   | exact LeO.none _
   | refine LeO.ite ?_ ?_
   | refine LeO.bind ?_ (fun _ => ?_)
set_option maxHeartbeats 8000000 in
set_option maxRecDepth 100000 in
theorem domesdayref04_Of.calls (k : Nat) (a0 : Int) (a1 : Int) (r1 : Int) (r2 : Int) (r3 : Int) (r4 : Int) (r5 : Int) (r6 : Int) (r7 : Int) (r8 : Int) (w : World) (h : domesdayref04_Of.f k a0 a1 = some (r1, r2, r3, r4, r5, r6, r7, r8)) :
  Calls Tryd.prog 31 #[.int .i64 a0, .int .i64 a1] w fun e w' => e = .returned (.agg #[.int .i64 r1, .int .i64 r2, .int .i64 r3, .int .i64 r4, .int .i64 r5, .int .i64 r6, .int .i64 r7, .int .i64 r8]) ∧ Below w.heap.size w w' := by
 have hu23 := Tryd.underlying23
 have HB := Aside0.mk (Below.refl w.heap.size w)
 have H : (if (wrap64 (a0 - (wrap64 ((wrap64 (Int.tdiv a0 12622780800)) * 12622780800)))) < 0 then (domesdayref04_Of.j0 k a1 (wrap64 ((wrap64 (Int.tdiv a0 12622780800)) - 1)) (wrap64 ((wrap64 (a0 - (wrap64 ((wrap64 (Int.tdiv a0 12622780800)) * 12622780800)))) + 12622780800))) else (domesdayref04_Of.j0 k a1 (wrap64 (Int.tdiv a0 12622780800)) (wrap64 (a0 - (wrap64 ((wrap64 (Int.tdiv a0 12622780800)) * 12622780800)))))) = some (r1, r2, r3, r4, r5, r6, r7, r8) := h
 clear h
 have HC3 := Aside0.mk H
 clear H
 go_enter Tryd.func31, Tryd.ntmps31
 go_upto_if 16 with (first | ((with_reducible refine gate_dst (N := 4) rfl ?_); refine box_event ?hg (N := 4) ?hd (cs := #[.int .i64 0, .int .i64 0, .int .i64 0, .int .i64 0, .int .i64 0, .int .i64 0, .int .i64 0, .int .i64 0]) (t := 23) ?hr ?_; (case hd => rfl); (case hg => rfl); (case hr => first | (go_simp; done) | (go_simp; rfl)); intro gb106 hg w4 hbox hb; have n0_ := Aside0.mk (below_step (by repeat (first | (with_reducible first | exact HB.out | apply below_alloc | apply pw_below_drewN | apply below_drew1) | exact HB.out)) hb); have n1_ := Aside0.mk (hbox); have n2_ := Aside0.mk ((by rw [hg]; exact (below_size (by repeat (first | (with_reducible first | exact HB.out | apply below_alloc | apply pw_below_drewN | apply below_drew1) | exact HB.out))) : w.heap.size ≤ gb106)); have n3_ := Aside0.mk ((by rw [hg]; exact (below_size (by repeat (first | (with_reducible first | exact HB.out | apply below_alloc | apply pw_below_drewN | apply below_drew1) | exact HB.out))) : w.heap.size ≤ gb106)); clear HB; have HB := n0_; have BK106 := n1_; have GW106 := n2_; have GE106 := n3_; clear n0_ n1_ n2_ n3_; clear hb hbox hg))
 (try simp only [Act.put, List.setIfInBounds_toArray, List.set_cons_zero, List.set_cons_succ])
 go_cut [5, 6] (fun v5 v6 wc => ∃ (kq : Nat) (x5_2 : Int) (x6_2 : Int), v5 = .int .i64 x5_2 ∧ v6 = .int .i64 x6_2 ∧ Aside0 (domesdayref04_Of.j0 kq a1 x5_2 x6_2 = some (r1, r2, r3, r4, r5, r6, r7, r8)) ∧ Aside0 (kq ≤ k) ∧ Aside0 (wc.heap[gb106]? = some (.cells #[.int .i64 0, .int .i64 0, .int .i64 0, .int .i64 0, .int .i64 0, .int .i64 0, .int .i64 0, .int .i64 0] 23 (0, 0))) ∧ Aside0 (Below w.heap.size w wc))
 case first =>
  have H := HC3.out
  clear HC3
  by_cases c5 : (wrap64 (a0 - (wrap64 ((wrap64 (Int.tdiv a0 12622780800)) * 12622780800)))) < 0
  ·rw [if_pos c5] at H
   have c5b0 : decide ((wrap64 (a0 - (wrap64 ((wrap64 (Int.tdiv a0 12622780800)) * 12622780800)))) < 0) = true := decide_eq_true c5
   clear c5
   (first | rw [c5b0] | (simp only [i64_w, i32_w]; rw [c5b0]) | skip)
   have H' := Aside0.mk H
   clear H
   go_wp2
   go_meet
   case rel => exact ⟨_, (wrap64 ((wrap64 (Int.tdiv a0 12622780800)) - 1)), (wrap64 ((wrap64 (a0 - (wrap64 ((wrap64 (Int.tdiv a0 12622780800)) * 12622780800)))) + 12622780800)), (by first | rfl | (simp; done) | (simp [*]; done)), (by first | rfl | (simp; done) | (simp [*]; done)), H', ⟨by first | omega | exact Nat.le_refl _⟩, ⟨by (with_reducible repeat (first | refine blk_drewN ?_ _ | refine blk_drew ?_ | refine blk_alloc ?_ _)); exact BK106.out⟩, ⟨by repeat (first | (with_reducible first | exact HB.out | apply below_alloc | apply pw_below_drewN | apply below_drew1 | refine below_set ?_ GE106.out) | exact HB.out)⟩⟩
  ·rw [if_neg c5] at H
   have c5b0 : decide ((wrap64 (a0 - (wrap64 ((wrap64 (Int.tdiv a0 12622780800)) * 12622780800)))) < 0) = false := decide_eq_false c5
   clear c5
   (first | rw [c5b0] | (simp only [i64_w, i32_w]; rw [c5b0]) | skip)
   have H' := Aside0.mk H
   clear H
   go_wp2
   go_meet
   case rel => exact ⟨_, (wrap64 (Int.tdiv a0 12622780800)), (wrap64 (a0 - (wrap64 ((wrap64 (Int.tdiv a0 12622780800)) * 12622780800)))), (by first | rfl | (simp; done) | (simp [*]; done)), (by first | rfl | (simp; done) | (simp [*]; done)), H', ⟨by first | omega | exact Nat.le_refl _⟩, ⟨by (with_reducible repeat (first | refine blk_drewN ?_ _ | refine blk_drew ?_ | refine blk_alloc ?_ _)); exact BK106.out⟩, ⟨by repeat (first | (with_reducible first | exact HB.out | apply below_alloc | apply pw_below_drewN | apply below_drew1 | refine below_set ?_ GE106.out) | exact HB.out)⟩⟩
 case rest =>
  clear HC3
  (try clear p2); (try clear c3); (try clear c5); (try clear c5b0)
  obtain ⟨kq, x5_2, x6_2, rfl, rfl, HA, HJ2, BK106, HB⟩ := hcut
  cases kq with
  | zero => exact absurd HA.out (by simp [domesdayref04_Of.j0])
  | succ kj2 =>
   have H := HA.out
   clear HA
   simp only [domesdayref04_Of.j0] at H
   obtain ⟨ji6, hji6⟩ : ∃ j_ : Int, (mn a1 86400) = j_ := ⟨_, rfl⟩
   replace H : (if (wrap64 (x6_2 + (mx (ji6) (-86400)))) < 0 then (domesdayref04_Of.j1 kj2 x5_2 (wrap64 ((wrap64 (x6_2 + (mx (ji6) (-86400)))) + 86400)) (-1)) else (domesdayref04_Of.j1 kj2 x5_2 (wrap64 (x6_2 + (mx (ji6) (-86400)))) 0)) = some (r1, r2, r3, r4, r5, r6, r7, r8) := by first | (rw [hji6] at H; exact H) | (simp only [hji6] at H ⊢; exact H)
   have hji6_ : (if 86400 < a1 then 86400 else a1) = ji6 := hji6
   obtain ⟨ji7, hji7⟩ : ∃ j_ : Int, (mx (ji6) (-86400)) = j_ := ⟨_, rfl⟩
   replace H : (if (wrap64 (x6_2 + (ji7))) < 0 then (domesdayref04_Of.j1 kj2 x5_2 (wrap64 ((wrap64 (x6_2 + (ji7))) + 86400)) (-1)) else (domesdayref04_Of.j1 kj2 x5_2 (wrap64 (x6_2 + (ji7))) 0)) = some (r1, r2, r3, r4, r5, r6, r7, r8) := by first | (rw [hji7] at H; exact H) | (simp only [hji7] at H ⊢; exact H)
   have hji7_ : (if (ji6) < (-86400) then (-86400) else (ji6)) = ji7 := hji7
   have HC8 := Aside0.mk H
   clear H
   go_upto_if 27 with (fail)
   go_cut [6, 7] (fun v6 v7 wc => ∃ (kq : Nat) (x6_7 : Int) (x7_7 : Int), v6 = .int .i64 x6_7 ∧ v7 = .int .i64 x7_7 ∧ Aside0 (domesdayref04_Of.j1 kq x5_2 x6_7 x7_7 = some (r1, r2, r3, r4, r5, r6, r7, r8)) ∧ Aside0 (kq ≤ kj2) ∧ Aside0 (wc.heap[gb106]? = some (.cells #[.int .i64 0, .int .i64 0, .int .i64 0, .int .i64 0, .int .i64 0, .int .i64 0, .int .i64 0, .int .i64 0] 23 (0, 0))) ∧ Aside0 (Below w.heap.size w wc))
   case first =>
    have H := HC8.out
    clear HC8
    by_cases c9 : (wrap64 (x6_2 + (ji7))) < 0
    ·rw [if_pos c9] at H
     have c9b0 : decide ((wrap64 (x6_2 + (ji7))) < 0) = true := decide_eq_true c9
     clear c9
     (first | rw [c9b0] | (simp only [i64_w, i32_w]; rw [c9b0]) | skip)
     have H' := Aside0.mk H
     clear H
     go_wp2
     go_meet
     case rel => exact ⟨_, (wrap64 ((wrap64 (x6_2 + (ji7))) + 86400)), (-1), (by first | rfl | (simp; done) | (simp only [← hji7] <;> (first | rfl | simp)) | (simp [*]; done)), (by first | rfl | (simp; done) | (simp [*]; done)), H', ⟨by have := HJ2.out; first | omega | exact Nat.le_refl _⟩, ⟨by (with_reducible repeat (first | refine blk_drewN ?_ _ | refine blk_drew ?_ | refine blk_alloc ?_ _)); exact BK106.out⟩, ⟨by repeat (first | (with_reducible first | exact HB.out | apply below_alloc | apply pw_below_drewN | apply below_drew1 | refine below_set ?_ GE106.out) | exact HB.out)⟩⟩
    ·rw [if_neg c9] at H
     have c9b0 : decide ((wrap64 (x6_2 + (ji7))) < 0) = false := decide_eq_false c9
     clear c9
     (first | rw [c9b0] | (simp only [i64_w, i32_w]; rw [c9b0]) | skip)
     have H' := Aside0.mk H
     clear H
     go_wp2
     go_meet
     case rel => exact ⟨_, (wrap64 (x6_2 + (ji7))), (0), (by first | rfl | (simp; done) | (simp only [← hji7] <;> (first | rfl | simp)) | (simp [*]; done)), (by first | rfl | (simp; done) | (simp [*]; done)), H', ⟨by have := HJ2.out; first | omega | exact Nat.le_refl _⟩, ⟨by (with_reducible repeat (first | refine blk_drewN ?_ _ | refine blk_drew ?_ | refine blk_alloc ?_ _)); exact BK106.out⟩, ⟨by repeat (first | (with_reducible first | exact HB.out | apply below_alloc | apply pw_below_drewN | apply below_drew1 | refine below_set ?_ GE106.out) | exact HB.out)⟩⟩
   case rest =>
    clear HC8
    (try clear p2); (try clear c3); (try clear c5); (try clear c5b0); (try clear p6); (try clear c9); (try clear c9b0); (try clear p2)
    obtain ⟨kq, x6_7, x7_7, rfl, rfl, HA, HJ7, BK106, HB⟩ := hcut
    cases kq with
    | zero => exact absurd HA.out (by simp [domesdayref04_Of.j1])
    | succ kj7 =>
     have H := HA.out
     clear HA
     simp only [domesdayref04_Of.j1] at H
     have H' := Aside0.mk H
     clear H
     go_wp2_with (first | ((with_reducible refine gate_dst (N := 8) rfl ?_); refine box_event ?hg (N := 8) ?hd (cs := #[.int .i64 0, .int .i64 0, .int .i64 0, .int .i64 0, .int .i64 0, .int .i64 0, .int .i64 0, .int .i64 0]) (t := 23) ?hr ?_; (case hd => rfl); (case hg => rfl); (case hr => first | (go_simp; done) | (go_simp; rfl)); intro gb107 hg w10 hbox hb; have n0_ := Aside0.mk (blk_below (g := gb106) (o := .cells #[.int .i64 0, .int .i64 0, .int .i64 0, .int .i64 0, .int .i64 0, .int .i64 0, .int .i64 0, .int .i64 0] 23 (0, 0)) (by (with_reducible repeat (first | refine blk_drewN ?_ _ | refine blk_drew ?_ | refine blk_alloc ?_ _)); exact BK106.out) hb); have n1_ := Aside0.mk (below_step (by repeat (first | (with_reducible first | exact HB.out | apply below_alloc | apply pw_below_drewN | apply below_drew1 | refine below_set ?_ GE106.out) | exact HB.out)) hb); have n2_ := Aside0.mk (hbox); have n3_ := Aside0.mk ((by rw [hg]; exact (below_size (by repeat (first | (with_reducible first | exact HB.out | apply below_alloc | apply pw_below_drewN | apply below_drew1 | refine below_set ?_ GE106.out) | exact HB.out))) : w.heap.size ≤ gb107)); have n4_ := Aside0.mk ((by rw [hg]; exact (below_size (by repeat (first | (with_reducible first | exact HB.out | apply below_alloc | apply pw_below_drewN | apply below_drew1 | refine below_set ?_ GE106.out) | exact HB.out))) : w.heap.size ≤ gb107)); have n5_ := Aside0.mk ((by rw [hg]; exact Nat.ne_of_lt (blk_lt (g := gb106) (o := .cells #[.int .i64 0, .int .i64 0, .int .i64 0, .int .i64 0, .int .i64 0, .int .i64 0, .int .i64 0, .int .i64 0] 23 (0, 0)) (by (with_reducible repeat (first | refine blk_drewN ?_ _ | refine blk_drew ?_ | refine blk_alloc ?_ _)); exact BK106.out)) : gb106 ≠ gb107)); have n6_ := Aside0.mk ((by rw [hg]; exact Nat.ne_of_gt (blk_lt (g := gb106) (o := .cells #[.int .i64 0, .int .i64 0, .int .i64 0, .int .i64 0, .int .i64 0, .int .i64 0, .int .i64 0, .int .i64 0] 23 (0, 0)) (by (with_reducible repeat (first | refine blk_drewN ?_ _ | refine blk_drew ?_ | refine blk_alloc ?_ _)); exact BK106.out)) : gb107 ≠ gb106)); clear BK106; clear HB; have BK106 := n0_; have HB := n1_; have BK107 := n2_; have GW107 := n3_; have GE107 := n4_; have NB106_107 := n5_; have NB107_106 := n6_; clear n0_ n1_ n2_ n3_ n4_ n5_ n6_; clear hb hbox hg; have hnb11 := NB107_106.out; have hnc11 := NB106_107.out; have hcz12_0 : w10.cell? ⟨gb107, 0, none⟩ = some (.int .i64 0) := (blk_cell BK107.out 0).trans rfl; have hcz12_1 : w10.cell? ⟨gb107, 1, none⟩ = some (.int .i64 0) := (blk_cell BK107.out 1).trans rfl; have hcz12_2 : w10.cell? ⟨gb107, 2, none⟩ = some (.int .i64 0) := (blk_cell BK107.out 2).trans rfl; have hcz12_3 : w10.cell? ⟨gb107, 3, none⟩ = some (.int .i64 0) := (blk_cell BK107.out 3).trans rfl; have hcz12_4 : w10.cell? ⟨gb107, 4, none⟩ = some (.int .i64 0) := (blk_cell BK107.out 4).trans rfl; have hcz12_5 : w10.cell? ⟨gb107, 5, none⟩ = some (.int .i64 0) := (blk_cell BK107.out 5).trans rfl; have hcz12_6 : w10.cell? ⟨gb107, 6, none⟩ = some (.int .i64 0) := (blk_cell BK107.out 6).trans rfl; have hcz12_7 : w10.cell? ⟨gb107, 7, none⟩ = some (.int .i64 0) := (blk_cell BK107.out 7).trans rfl; have hfz12_0 := blk_frozen BK107.out 0; have hfz12_1 := blk_frozen BK107.out 1; have hfz12_2 := blk_frozen BK107.out 2; have hfz12_3 := blk_frozen BK107.out 3; have hfz12_4 := blk_frozen BK107.out 4; have hfz12_5 := blk_frozen BK107.out 5; have hfz12_6 := blk_frozen BK107.out 6; have hfz12_7 := blk_frozen BK107.out 7))
     go_loopg [7] kj7 (fun kq v7 w' => ∃ (x7_3 : Int) (x108000_3 : Int), v7 = .int .i64 x7_3 ∧ Aside0 (domesdayref04_Of.l0 kq x5_2 (Int.tmod x6_7 86400) x7_3 x108000_3 1 1 0 0 0 (Int.tmod (wrap64 ((Int.tmod (wrap64 (x7_7 + (wrap64 (Int.tdiv x6_7 86400)))) 7) + 11)) 7) 0 = some (r1, r2, r3, r4, r5, r6, r7, r8)) ∧ Aside0 (kq ≤ kj7) ∧ Aside0 (w'.heap[gb106]? = some (.cells #[.int .i64 0, .int .i64 0, .int .i64 0, .int .i64 0, .int .i64 0, .int .i64 0, .int .i64 0, .int .i64 0] 23 (0, 0))) ∧ Aside0 (w'.heap[gb107]? = some (.cells #[.int .i64 x108000_3, .int .i64 1, .int .i64 1, .int .i64 0, .int .i64 0, .int .i64 0, .int .i64 (Int.tmod (wrap64 ((Int.tmod (wrap64 (x7_7 + (wrap64 (Int.tdiv x6_7 86400)))) 7) + 11)) 7), .int .i64 0] 23 (0, 0))) ∧ Aside0 (Below w.heap.size w w'))
     case atStart => exact ⟨(wrap64 (x7_7 + (wrap64 (Int.tdiv x6_7 86400)))), (1970), (by first | rfl | (simp; done) | (simp [*]; done)), H', ⟨Nat.le_refl _⟩, ⟨by (with_reducible repeat (first | refine blk_drewN ?_ _ | refine blk_drew ?_ | refine blk_alloc ?_ _)); refine blk_far ?_ NB106_107.out _; (with_reducible repeat (first | refine blk_drewN ?_ _ | refine blk_drew ?_ | refine blk_alloc ?_ _)); refine blk_far ?_ NB106_107.out _; (with_reducible repeat (first | refine blk_drewN ?_ _ | refine blk_drew ?_ | refine blk_alloc ?_ _)); refine blk_far ?_ NB106_107.out _; (with_reducible repeat (first | refine blk_drewN ?_ _ | refine blk_drew ?_ | refine blk_alloc ?_ _)); refine blk_far ?_ NB106_107.out _; (with_reducible repeat (first | refine blk_drewN ?_ _ | refine blk_drew ?_ | refine blk_alloc ?_ _)); refine blk_far ?_ NB106_107.out _; (with_reducible repeat (first | refine blk_drewN ?_ _ | refine blk_drew ?_ | refine blk_alloc ?_ _)); refine blk_far ?_ NB106_107.out _; (with_reducible repeat (first | refine blk_drewN ?_ _ | refine blk_drew ?_ | refine blk_alloc ?_ _)); refine blk_far ?_ NB106_107.out _; (with_reducible repeat (first | refine blk_drewN ?_ _ | refine blk_drew ?_ | refine blk_alloc ?_ _)); refine blk_far ?_ NB106_107.out _; (with_reducible repeat (first | refine blk_drewN ?_ _ | refine blk_drew ?_ | refine blk_alloc ?_ _)); exact BK106.out⟩, ⟨by (with_reducible repeat (first | refine blk_drewN ?_ _ | refine blk_drew ?_ | refine blk_alloc ?_ _)); refine blk_put (cs := #[.int .i64 1970, .int .i64 1, .int .i64 1, .int .i64 0, .int .i64 0, .int .i64 0, .int .i64 (Int.tmod (wrap64 ((Int.tmod (wrap64 (x7_7 + (wrap64 (Int.tdiv x6_7 86400)))) 7) + 11)) 7), .int .i64 0]) ?_ 7 _ (by first | rfl | (simp; done)); (with_reducible repeat (first | refine blk_drewN ?_ _ | refine blk_drew ?_ | refine blk_alloc ?_ _)); refine blk_put (cs := #[.int .i64 1970, .int .i64 1, .int .i64 1, .int .i64 0, .int .i64 0, .int .i64 0, .int .i64 0, .int .i64 0]) ?_ 6 _ (by first | rfl | (simp; done)); (with_reducible repeat (first | refine blk_drewN ?_ _ | refine blk_drew ?_ | refine blk_alloc ?_ _)); refine blk_put (cs := #[.int .i64 1970, .int .i64 1, .int .i64 1, .int .i64 0, .int .i64 0, .int .i64 0, .int .i64 0, .int .i64 0]) ?_ 5 _ (by first | rfl | (simp; done)); (with_reducible repeat (first | refine blk_drewN ?_ _ | refine blk_drew ?_ | refine blk_alloc ?_ _)); refine blk_put (cs := #[.int .i64 1970, .int .i64 1, .int .i64 1, .int .i64 0, .int .i64 0, .int .i64 0, .int .i64 0, .int .i64 0]) ?_ 4 _ (by first | rfl | (simp; done)); (with_reducible repeat (first | refine blk_drewN ?_ _ | refine blk_drew ?_ | refine blk_alloc ?_ _)); refine blk_put (cs := #[.int .i64 1970, .int .i64 1, .int .i64 1, .int .i64 0, .int .i64 0, .int .i64 0, .int .i64 0, .int .i64 0]) ?_ 3 _ (by first | rfl | (simp; done)); (with_reducible repeat (first | refine blk_drewN ?_ _ | refine blk_drew ?_ | refine blk_alloc ?_ _)); refine blk_put (cs := #[.int .i64 1970, .int .i64 1, .int .i64 0, .int .i64 0, .int .i64 0, .int .i64 0, .int .i64 0, .int .i64 0]) ?_ 2 _ (by first | rfl | (simp; done)); (with_reducible repeat (first | refine blk_drewN ?_ _ | refine blk_drew ?_ | refine blk_alloc ?_ _)); refine blk_put (cs := #[.int .i64 1970, .int .i64 0, .int .i64 0, .int .i64 0, .int .i64 0, .int .i64 0, .int .i64 0, .int .i64 0]) ?_ 1 _ (by first | rfl | (simp; done)); (with_reducible repeat (first | refine blk_drewN ?_ _ | refine blk_drew ?_ | refine blk_alloc ?_ _)); refine blk_put (cs := #[.int .i64 0, .int .i64 0, .int .i64 0, .int .i64 0, .int .i64 0, .int .i64 0, .int .i64 0, .int .i64 0]) ?_ 0 _ (by first | rfl | (simp; done)); (with_reducible repeat (first | refine blk_drewN ?_ _ | refine blk_drew ?_ | refine blk_alloc ?_ _)); exact BK107.out⟩, ⟨by repeat (first | (with_reducible first | exact HB.out | apply below_alloc | apply pw_below_drewN | apply below_drew1 | refine below_set ?_ GE106.out | refine below_set ?_ GE107.out) | exact HB.out)⟩⟩
     case round =>
      clear H'
      (try clear c1); (try clear p2); (try clear c3); (try clear c5); (try clear c5b0); (try clear p6); (try clear c9); (try clear c9b0); (try clear c11); (try clear hcz12_0); (try clear hcz12_1); (try clear hcz12_2); (try clear hcz12_3); (try clear hcz12_4); (try clear hcz12_5); (try clear hcz12_6); (try clear hcz12_7); (try clear hfz12_0); (try clear hfz12_1); (try clear hfz12_2); (try clear hfz12_3); (try clear hfz12_4); (try clear hfz12_5); (try clear hfz12_6); (try clear hfz12_7); (try clear p2); (try clear p6)
      obtain ⟨x7_3, x108000_3, rfl, HA, HK3, BK106, BK107, HB⟩ := hrel
      cases gk with
      | zero => exact absurd HA.out (by simp [domesdayref04_Of.l0])
      | succ k3 =>
       have H := HA.out
       clear HA
       simp only [domesdayref04_Of.l0] at H
       by_cases c13 : x7_3 < 0
       ·rw [if_pos c13] at H
        have c13b0 : decide (x7_3 < 0) = true := decide_eq_true c13
        clear c13
        replace H := Option.bind_eq_some_iff.mp H
        obtain ⟨t108, A140, H⟩ := H
        replace H : (domesdayref04_Of.l0 k3 x5_2 (Int.tmod x6_7 86400) (wrap64 (x7_3 + t108)) (wrap64 (x108000_3 - 1)) 1 1 0 0 0 (Int.tmod (wrap64 ((Int.tmod (wrap64 (x7_7 + (wrap64 (Int.tdiv x6_7 86400)))) 7) + 11)) 7) 0) = some (r1, r2, r3, r4, r5, r6, r7, r8) := H
        have A14 := Aside0.mk A140
        clear A140
        have H' := Aside0.mk H
        clear H
        have hnb15 := NB107_106.out; have hnc15 := NB106_107.out; have hcz16_0 : wr.cell? ⟨gb107, 0, none⟩ = some (.int .i64 x108000_3) := (blk_cell BK107.out 0).trans rfl; have hcz16_1 : wr.cell? ⟨gb107, 1, none⟩ = some (.int .i64 1) := (blk_cell BK107.out 1).trans rfl; have hcz16_2 : wr.cell? ⟨gb107, 2, none⟩ = some (.int .i64 1) := (blk_cell BK107.out 2).trans rfl; have hcz16_3 : wr.cell? ⟨gb107, 3, none⟩ = some (.int .i64 0) := (blk_cell BK107.out 3).trans rfl; have hcz16_4 : wr.cell? ⟨gb107, 4, none⟩ = some (.int .i64 0) := (blk_cell BK107.out 4).trans rfl; have hcz16_5 : wr.cell? ⟨gb107, 5, none⟩ = some (.int .i64 0) := (blk_cell BK107.out 5).trans rfl; have hcz16_6 : wr.cell? ⟨gb107, 6, none⟩ = some (.int .i64 (Int.tmod (wrap64 ((Int.tmod (wrap64 (x7_7 + (wrap64 (Int.tdiv x6_7 86400)))) 7) + 11)) 7)) := (blk_cell BK107.out 6).trans rfl; have hcz16_7 : wr.cell? ⟨gb107, 7, none⟩ = some (.int .i64 0) := (blk_cell BK107.out 7).trans rfl; have hfz16_0 := blk_frozen BK107.out 0; have hfz16_1 := blk_frozen BK107.out 1; have hfz16_2 := blk_frozen BK107.out 2; have hfz16_3 := blk_frozen BK107.out 3; have hfz16_4 := blk_frozen BK107.out 4; have hfz16_5 := blk_frozen BK107.out 5; have hfz16_6 := blk_frozen BK107.out 6; have hfz16_7 := blk_frozen BK107.out 7
        go_wp2_with (first | ((with_reducible refine gate_callee (f := 40) rfl ?_); refine goesL_ (some 52) rfl rfl Tryd.func40 (by kernel_rfl) rfl #[.int .i64 (wrap64 (x108000_3 - 1))] rfl (by (try simp only [List.map_toArray, List.map_cons, List.map_nil]); first | done | rfl | (simp only [List.length_drop, List.length_take]; rfl)) ?_; (with_reducible refine (domesdayref04_year.calls (wrap64 (x108000_3 - 1)) t108 _ A14.out).mono ?_); rintro e w' ⟨rfl, ⟨nd, rfl⟩⟩; refine ⟨_, rfl, ?_⟩))
        go_roundg k3
        case measure => have := HJ2.out; have := HJ7.out; have := HK3.out; omega
        case rel => exact ⟨(wrap64 (x7_3 + t108)), (wrap64 (x108000_3 - 1)), (by first | rfl | (simp; done) | (simp [*]; done)), H', ⟨by have := HJ2.out; have := HJ7.out; have := HK3.out; omega⟩, ⟨by (with_reducible repeat (first | refine blk_drewN ?_ _ | refine blk_drew ?_ | refine blk_alloc ?_ _)); refine blk_far ?_ NB106_107.out _; (with_reducible repeat (first | refine blk_drewN ?_ _ | refine blk_drew ?_ | refine blk_alloc ?_ _)); exact BK106.out⟩, ⟨by (with_reducible repeat (first | refine blk_drewN ?_ _ | refine blk_drew ?_ | refine blk_alloc ?_ _)); refine blk_put (cs := #[.int .i64 x108000_3, .int .i64 1, .int .i64 1, .int .i64 0, .int .i64 0, .int .i64 0, .int .i64 (Int.tmod (wrap64 ((Int.tmod (wrap64 (x7_7 + (wrap64 (Int.tdiv x6_7 86400)))) 7) + 11)) 7), .int .i64 0]) ?_ 0 _ (by first | rfl | (simp; done)); (with_reducible repeat (first | refine blk_drewN ?_ _ | refine blk_drew ?_ | refine blk_alloc ?_ _)); exact BK107.out⟩, ⟨by repeat (first | (with_reducible first | exact HB.out | apply below_alloc | apply pw_below_drewN | apply below_drew1 | refine below_set ?_ GE106.out | refine below_set ?_ GE107.out) | exact HB.out)⟩⟩
       ·rw [if_neg c13] at H
        have c13b0 : decide (x7_3 < 0) = false := decide_eq_false c13
        clear c13
        have H' := Aside0.mk H
        clear H
        go_wp2
        go_loopg [7] k3 (fun kq v7 w' => ∃ (x7_4 : Int) (x108000_4 : Int), v7 = .int .i64 x7_4 ∧ Aside0 (domesdayref04_Of.l1 kq x5_2 (Int.tmod x6_7 86400) x7_4 x108000_4 1 1 0 0 0 (Int.tmod (wrap64 ((Int.tmod (wrap64 (x7_7 + (wrap64 (Int.tdiv x6_7 86400)))) 7) + 11)) 7) 0 = some (r1, r2, r3, r4, r5, r6, r7, r8)) ∧ Aside0 (kq ≤ k3) ∧ Aside0 (w'.heap[gb106]? = some (.cells #[.int .i64 0, .int .i64 0, .int .i64 0, .int .i64 0, .int .i64 0, .int .i64 0, .int .i64 0, .int .i64 0] 23 (0, 0))) ∧ Aside0 (w'.heap[gb107]? = some (.cells #[.int .i64 x108000_4, .int .i64 1, .int .i64 1, .int .i64 0, .int .i64 0, .int .i64 0, .int .i64 (Int.tmod (wrap64 ((Int.tmod (wrap64 (x7_7 + (wrap64 (Int.tdiv x6_7 86400)))) 7) + 11)) 7), .int .i64 0] 23 (0, 0))) ∧ Aside0 (Below w.heap.size w w'))
        case atStart => exact ⟨(x7_3), (x108000_3), (by first | rfl | (simp; done) | (simp [*]; done)), H', ⟨Nat.le_refl _⟩, ⟨by (with_reducible repeat (first | refine blk_drewN ?_ _ | refine blk_drew ?_ | refine blk_alloc ?_ _)); exact BK106.out⟩, ⟨by (with_reducible repeat (first | refine blk_drewN ?_ _ | refine blk_drew ?_ | refine blk_alloc ?_ _)); exact BK107.out⟩, ⟨by repeat (first | (with_reducible first | exact HB.out | apply below_alloc | apply pw_below_drewN | apply below_drew1 | refine below_set ?_ GE106.out | refine below_set ?_ GE107.out) | exact HB.out)⟩⟩
        case round =>
         clear H'
         (try clear c1); (try clear p2); (try clear c3); (try clear c4); (try clear c5); (try clear c5b0); (try clear p6); (try clear c9); (try clear c9b0); (try clear c11); (try clear c13); (try clear c13b0); (try clear c15); (try clear hcz12_0); (try clear hcz12_1); (try clear hcz12_2); (try clear hcz12_3); (try clear hcz12_4); (try clear hcz12_5); (try clear hcz12_6); (try clear hcz12_7); (try clear hcz16_0); (try clear hcz16_1); (try clear hcz16_2); (try clear hcz16_3); (try clear hcz16_4); (try clear hcz16_5); (try clear hcz16_6); (try clear hcz16_7); (try clear hfz12_0); (try clear hfz12_1); (try clear hfz12_2); (try clear hfz12_3); (try clear hfz12_4); (try clear hfz12_5); (try clear hfz12_6); (try clear hfz12_7); (try clear hfz16_0); (try clear hfz16_1); (try clear hfz16_2); (try clear hfz16_3); (try clear hfz16_4); (try clear hfz16_5); (try clear hfz16_6); (try clear hfz16_7); (try clear p2); (try clear p6)
         obtain ⟨x7_4, x108000_4, rfl, HA, HK4, BK106, BK107, HB⟩ := hrel
         cases gk with
         | zero => exact absurd HA.out (by simp [domesdayref04_Of.l1])
         | succ k4 =>
          have H := HA.out
          clear HA
          simp only [domesdayref04_Of.l1] at H
          replace H := Option.bind_eq_some_iff.mp H
          obtain ⟨t109, A170, H⟩ := H
          replace H : (if x7_4 ≥ t109 then ((domesdayref04_year.f x108000_4).bind fun t110 => (domesdayref04_Of.l1 k4 x5_2 (Int.tmod x6_7 86400) (wrap64 (x7_4 - t110)) (wrap64 (x108000_4 + 1)) 1 1 0 0 0 (Int.tmod (wrap64 ((Int.tmod (wrap64 (x7_7 + (wrap64 (Int.tdiv x6_7 86400)))) 7) + 11)) 7) 0)) else (domesdayref04_Of.l2 k4 x5_2 (Int.tmod x6_7 86400) x7_4 x108000_4 1 1 0 0 0 (Int.tmod (wrap64 ((Int.tmod (wrap64 (x7_7 + (wrap64 (Int.tdiv x6_7 86400)))) 7) + 11)) 7) (wrap64 (x7_4 + 1)))) = some (r1, r2, r3, r4, r5, r6, r7, r8) := H
          have A17 := Aside0.mk A170
          clear A170
          by_cases c18 : x7_4 ≥ t109
          ·rw [if_pos c18] at H
           have c18b0 : decide (t109 ≤ x7_4) = true := decide_eq_true c18
           clear c18
           replace H := Option.bind_eq_some_iff.mp H
           obtain ⟨t110, A190, H⟩ := H
           replace H : (domesdayref04_Of.l1 k4 x5_2 (Int.tmod x6_7 86400) (wrap64 (x7_4 - t110)) (wrap64 (x108000_4 + 1)) 1 1 0 0 0 (Int.tmod (wrap64 ((Int.tmod (wrap64 (x7_7 + (wrap64 (Int.tdiv x6_7 86400)))) 7) + 11)) 7) 0) = some (r1, r2, r3, r4, r5, r6, r7, r8) := H
           have A19 := Aside0.mk A190
           clear A190
           have H' := Aside0.mk H
           clear H
           have hnb20 := NB107_106.out; have hnc20 := NB106_107.out; have hcz21_0 : wr.cell? ⟨gb107, 0, none⟩ = some (.int .i64 x108000_4) := (blk_cell BK107.out 0).trans rfl; have hcz21_1 : wr.cell? ⟨gb107, 1, none⟩ = some (.int .i64 1) := (blk_cell BK107.out 1).trans rfl; have hcz21_2 : wr.cell? ⟨gb107, 2, none⟩ = some (.int .i64 1) := (blk_cell BK107.out 2).trans rfl; have hcz21_3 : wr.cell? ⟨gb107, 3, none⟩ = some (.int .i64 0) := (blk_cell BK107.out 3).trans rfl; have hcz21_4 : wr.cell? ⟨gb107, 4, none⟩ = some (.int .i64 0) := (blk_cell BK107.out 4).trans rfl; have hcz21_5 : wr.cell? ⟨gb107, 5, none⟩ = some (.int .i64 0) := (blk_cell BK107.out 5).trans rfl; have hcz21_6 : wr.cell? ⟨gb107, 6, none⟩ = some (.int .i64 (Int.tmod (wrap64 ((Int.tmod (wrap64 (x7_7 + (wrap64 (Int.tdiv x6_7 86400)))) 7) + 11)) 7)) := (blk_cell BK107.out 6).trans rfl; have hcz21_7 : wr.cell? ⟨gb107, 7, none⟩ = some (.int .i64 0) := (blk_cell BK107.out 7).trans rfl; have hfz21_0 := blk_frozen BK107.out 0; have hfz21_1 := blk_frozen BK107.out 1; have hfz21_2 := blk_frozen BK107.out 2; have hfz21_3 := blk_frozen BK107.out 3; have hfz21_4 := blk_frozen BK107.out 4; have hfz21_5 := blk_frozen BK107.out 5; have hfz21_6 := blk_frozen BK107.out 6; have hfz21_7 := blk_frozen BK107.out 7
           go_wp2_with (first | ((with_reducible refine gate_callee (f := 40) rfl ?_); refine goesL_ (some 57) rfl rfl Tryd.func40 (by kernel_rfl) rfl #[.int .i64 x108000_4] rfl (by (try simp only [List.map_toArray, List.map_cons, List.map_nil]); first | done | rfl | (simp only [List.length_drop, List.length_take]; rfl)) ?_; (with_reducible refine (domesdayref04_year.calls x108000_4 t109 _ A17.out).mono ?_); rintro e w' ⟨rfl, ⟨nd, rfl⟩⟩; refine ⟨_, rfl, ?_⟩; (try (rw [drewN_self wr]; generalize hq_ : World.drewN wr _ = wr; have n0_ : Aside0 (wr.heap[gb106]? = some (.cells #[.int .i64 0, .int .i64 0, .int .i64 0, .int .i64 0, .int .i64 0, .int .i64 0, .int .i64 0, .int .i64 0] 23 (0, 0))) := ⟨by rw [← hq_]; exact (by (with_reducible repeat (first | refine blk_drewN ?_ _ | refine blk_drew ?_ | refine blk_alloc ?_ _)); exact BK106.out)⟩; have n1_ : Aside0 (wr.heap[gb107]? = some (.cells #[.int .i64 x108000_4, .int .i64 1, .int .i64 1, .int .i64 0, .int .i64 0, .int .i64 0, .int .i64 (Int.tmod (wrap64 ((Int.tmod (wrap64 (x7_7 + (wrap64 (Int.tdiv x6_7 86400)))) 7) + 11)) 7), .int .i64 0] 23 (0, 0))) := ⟨by rw [← hq_]; exact (by (with_reducible repeat (first | refine blk_drewN ?_ _ | refine blk_drew ?_ | refine blk_alloc ?_ _)); exact BK107.out)⟩; have n2_ : Aside0 (Below w.heap.size w wr) := ⟨by rw [← hq_]; exact (by repeat (first | (with_reducible first | exact HB.out | apply below_alloc | apply pw_below_drewN | apply below_drew1 | refine below_set ?_ GE106.out | refine below_set ?_ GE107.out) | exact HB.out))⟩; clear BK106 BK107 HB hq_; have BK106 := n0_; have BK107 := n1_; have HB := n2_; clear n0_ n1_ n2_)); have hcz22_0 : wr.cell? ⟨gb107, 0, none⟩ = some (.int .i64 x108000_4) := (blk_cell BK107.out 0).trans rfl; have hcz22_1 : wr.cell? ⟨gb107, 1, none⟩ = some (.int .i64 1) := (blk_cell BK107.out 1).trans rfl; have hcz22_2 : wr.cell? ⟨gb107, 2, none⟩ = some (.int .i64 1) := (blk_cell BK107.out 2).trans rfl; have hcz22_3 : wr.cell? ⟨gb107, 3, none⟩ = some (.int .i64 0) := (blk_cell BK107.out 3).trans rfl; have hcz22_4 : wr.cell? ⟨gb107, 4, none⟩ = some (.int .i64 0) := (blk_cell BK107.out 4).trans rfl; have hcz22_5 : wr.cell? ⟨gb107, 5, none⟩ = some (.int .i64 0) := (blk_cell BK107.out 5).trans rfl; have hcz22_6 : wr.cell? ⟨gb107, 6, none⟩ = some (.int .i64 (Int.tmod (wrap64 ((Int.tmod (wrap64 (x7_7 + (wrap64 (Int.tdiv x6_7 86400)))) 7) + 11)) 7)) := (blk_cell BK107.out 6).trans rfl; have hcz22_7 : wr.cell? ⟨gb107, 7, none⟩ = some (.int .i64 0) := (blk_cell BK107.out 7).trans rfl; have hfz22_0 := blk_frozen BK107.out 0; have hfz22_1 := blk_frozen BK107.out 1; have hfz22_2 := blk_frozen BK107.out 2; have hfz22_3 := blk_frozen BK107.out 3; have hfz22_4 := blk_frozen BK107.out 4; have hfz22_5 := blk_frozen BK107.out 5; have hfz22_6 := blk_frozen BK107.out 6; have hfz22_7 := blk_frozen BK107.out 7) | ((with_reducible refine gate_callee (f := 40) rfl ?_); refine goesL_ (some 62) rfl rfl Tryd.func40 (by kernel_rfl) rfl #[.int .i64 x108000_4] rfl (by (try simp only [List.map_toArray, List.map_cons, List.map_nil]); first | done | rfl | (simp only [List.length_drop, List.length_take]; rfl)) ?_; (with_reducible refine (domesdayref04_year.calls x108000_4 t110 _ A19.out).mono ?_); rintro e w' ⟨rfl, ⟨nd, rfl⟩⟩; refine ⟨_, rfl, ?_⟩; (try (rw [drewN_self wr]; generalize hq_ : World.drewN wr _ = wr; have n0_ : Aside0 (wr.heap[gb106]? = some (.cells #[.int .i64 0, .int .i64 0, .int .i64 0, .int .i64 0, .int .i64 0, .int .i64 0, .int .i64 0, .int .i64 0] 23 (0, 0))) := ⟨by rw [← hq_]; exact (by (with_reducible repeat (first | refine blk_drewN ?_ _ | refine blk_drew ?_ | refine blk_alloc ?_ _)); exact BK106.out)⟩; have n1_ : Aside0 (wr.heap[gb107]? = some (.cells #[.int .i64 x108000_4, .int .i64 1, .int .i64 1, .int .i64 0, .int .i64 0, .int .i64 0, .int .i64 (Int.tmod (wrap64 ((Int.tmod (wrap64 (x7_7 + (wrap64 (Int.tdiv x6_7 86400)))) 7) + 11)) 7), .int .i64 0] 23 (0, 0))) := ⟨by rw [← hq_]; exact (by (with_reducible repeat (first | refine blk_drewN ?_ _ | refine blk_drew ?_ | refine blk_alloc ?_ _)); exact BK107.out)⟩; have n2_ : Aside0 (Below w.heap.size w wr) := ⟨by rw [← hq_]; exact (by repeat (first | (with_reducible first | exact HB.out | apply below_alloc | apply pw_below_drewN | apply below_drew1 | refine below_set ?_ GE106.out | refine below_set ?_ GE107.out) | exact HB.out))⟩; clear BK106 BK107 HB hq_; have BK106 := n0_; have BK107 := n1_; have HB := n2_; clear n0_ n1_ n2_)); have hcz23_0 : wr.cell? ⟨gb107, 0, none⟩ = some (.int .i64 x108000_4) := (blk_cell BK107.out 0).trans rfl; have hcz23_1 : wr.cell? ⟨gb107, 1, none⟩ = some (.int .i64 1) := (blk_cell BK107.out 1).trans rfl; have hcz23_2 : wr.cell? ⟨gb107, 2, none⟩ = some (.int .i64 1) := (blk_cell BK107.out 2).trans rfl; have hcz23_3 : wr.cell? ⟨gb107, 3, none⟩ = some (.int .i64 0) := (blk_cell BK107.out 3).trans rfl; have hcz23_4 : wr.cell? ⟨gb107, 4, none⟩ = some (.int .i64 0) := (blk_cell BK107.out 4).trans rfl; have hcz23_5 : wr.cell? ⟨gb107, 5, none⟩ = some (.int .i64 0) := (blk_cell BK107.out 5).trans rfl; have hcz23_6 : wr.cell? ⟨gb107, 6, none⟩ = some (.int .i64 (Int.tmod (wrap64 ((Int.tmod (wrap64 (x7_7 + (wrap64 (Int.tdiv x6_7 86400)))) 7) + 11)) 7)) := (blk_cell BK107.out 6).trans rfl; have hcz23_7 : wr.cell? ⟨gb107, 7, none⟩ = some (.int .i64 0) := (blk_cell BK107.out 7).trans rfl; have hfz23_0 := blk_frozen BK107.out 0; have hfz23_1 := blk_frozen BK107.out 1; have hfz23_2 := blk_frozen BK107.out 2; have hfz23_3 := blk_frozen BK107.out 3; have hfz23_4 := blk_frozen BK107.out 4; have hfz23_5 := blk_frozen BK107.out 5; have hfz23_6 := blk_frozen BK107.out 6; have hfz23_7 := blk_frozen BK107.out 7))
           go_roundg k4
           case measure => have := HJ2.out; have := HJ7.out; have := HK3.out; have := HK4.out; omega
           case rel => exact ⟨(wrap64 (x7_4 - t110)), (wrap64 (x108000_4 + 1)), (by first | rfl | (simp; done) | (simp [*]; done)), H', ⟨by have := HJ2.out; have := HJ7.out; have := HK3.out; have := HK4.out; omega⟩, ⟨by (with_reducible repeat (first | refine blk_drewN ?_ _ | refine blk_drew ?_ | refine blk_alloc ?_ _)); refine blk_far ?_ NB106_107.out _; (with_reducible repeat (first | refine blk_drewN ?_ _ | refine blk_drew ?_ | refine blk_alloc ?_ _)); exact BK106.out⟩, ⟨by (with_reducible repeat (first | refine blk_drewN ?_ _ | refine blk_drew ?_ | refine blk_alloc ?_ _)); refine blk_put (cs := #[.int .i64 x108000_4, .int .i64 1, .int .i64 1, .int .i64 0, .int .i64 0, .int .i64 0, .int .i64 (Int.tmod (wrap64 ((Int.tmod (wrap64 (x7_7 + (wrap64 (Int.tdiv x6_7 86400)))) 7) + 11)) 7), .int .i64 0]) ?_ 0 _ (by first | rfl | (simp; done)); (with_reducible repeat (first | refine blk_drewN ?_ _ | refine blk_drew ?_ | refine blk_alloc ?_ _)); exact BK107.out⟩, ⟨by repeat (first | (with_reducible first | exact HB.out | apply below_alloc | apply pw_below_drewN | apply below_drew1 | refine below_set ?_ GE106.out | refine below_set ?_ GE107.out) | exact HB.out)⟩⟩
          ·rw [if_neg c18] at H
           have c18b0 : decide (t109 ≤ x7_4) = false := decide_eq_false c18
           clear c18
           have H' := Aside0.mk H
           clear H
           have hnb24 := NB107_106.out; have hnc24 := NB106_107.out; have hcz25_0 : wr.cell? ⟨gb107, 0, none⟩ = some (.int .i64 x108000_4) := (blk_cell BK107.out 0).trans rfl; have hcz25_1 : wr.cell? ⟨gb107, 1, none⟩ = some (.int .i64 1) := (blk_cell BK107.out 1).trans rfl; have hcz25_2 : wr.cell? ⟨gb107, 2, none⟩ = some (.int .i64 1) := (blk_cell BK107.out 2).trans rfl; have hcz25_3 : wr.cell? ⟨gb107, 3, none⟩ = some (.int .i64 0) := (blk_cell BK107.out 3).trans rfl; have hcz25_4 : wr.cell? ⟨gb107, 4, none⟩ = some (.int .i64 0) := (blk_cell BK107.out 4).trans rfl; have hcz25_5 : wr.cell? ⟨gb107, 5, none⟩ = some (.int .i64 0) := (blk_cell BK107.out 5).trans rfl; have hcz25_6 : wr.cell? ⟨gb107, 6, none⟩ = some (.int .i64 (Int.tmod (wrap64 ((Int.tmod (wrap64 (x7_7 + (wrap64 (Int.tdiv x6_7 86400)))) 7) + 11)) 7)) := (blk_cell BK107.out 6).trans rfl; have hcz25_7 : wr.cell? ⟨gb107, 7, none⟩ = some (.int .i64 0) := (blk_cell BK107.out 7).trans rfl; have hfz25_0 := blk_frozen BK107.out 0; have hfz25_1 := blk_frozen BK107.out 1; have hfz25_2 := blk_frozen BK107.out 2; have hfz25_3 := blk_frozen BK107.out 3; have hfz25_4 := blk_frozen BK107.out 4; have hfz25_5 := blk_frozen BK107.out 5; have hfz25_6 := blk_frozen BK107.out 6; have hfz25_7 := blk_frozen BK107.out 7
           go_wp2_with (first | ((with_reducible refine gate_callee (f := 40) rfl ?_); refine goesL_ (some 57) rfl rfl Tryd.func40 (by kernel_rfl) rfl #[.int .i64 x108000_4] rfl (by (try simp only [List.map_toArray, List.map_cons, List.map_nil]); first | done | rfl | (simp only [List.length_drop, List.length_take]; rfl)) ?_; (with_reducible refine (domesdayref04_year.calls x108000_4 t109 _ A17.out).mono ?_); rintro e w' ⟨rfl, ⟨nd, rfl⟩⟩; refine ⟨_, rfl, ?_⟩; (try (rw [drewN_self wr]; generalize hq_ : World.drewN wr _ = wr; have n0_ : Aside0 (wr.heap[gb106]? = some (.cells #[.int .i64 0, .int .i64 0, .int .i64 0, .int .i64 0, .int .i64 0, .int .i64 0, .int .i64 0, .int .i64 0] 23 (0, 0))) := ⟨by rw [← hq_]; exact (by (with_reducible repeat (first | refine blk_drewN ?_ _ | refine blk_drew ?_ | refine blk_alloc ?_ _)); exact BK106.out)⟩; have n1_ : Aside0 (wr.heap[gb107]? = some (.cells #[.int .i64 x108000_4, .int .i64 1, .int .i64 1, .int .i64 0, .int .i64 0, .int .i64 0, .int .i64 (Int.tmod (wrap64 ((Int.tmod (wrap64 (x7_7 + (wrap64 (Int.tdiv x6_7 86400)))) 7) + 11)) 7), .int .i64 0] 23 (0, 0))) := ⟨by rw [← hq_]; exact (by (with_reducible repeat (first | refine blk_drewN ?_ _ | refine blk_drew ?_ | refine blk_alloc ?_ _)); exact BK107.out)⟩; have n2_ : Aside0 (Below w.heap.size w wr) := ⟨by rw [← hq_]; exact (by repeat (first | (with_reducible first | exact HB.out | apply below_alloc | apply pw_below_drewN | apply below_drew1 | refine below_set ?_ GE106.out | refine below_set ?_ GE107.out) | exact HB.out))⟩; clear BK106 BK107 HB hq_; have BK106 := n0_; have BK107 := n1_; have HB := n2_; clear n0_ n1_ n2_)); have hcz26_0 : wr.cell? ⟨gb107, 0, none⟩ = some (.int .i64 x108000_4) := (blk_cell BK107.out 0).trans rfl; have hcz26_1 : wr.cell? ⟨gb107, 1, none⟩ = some (.int .i64 1) := (blk_cell BK107.out 1).trans rfl; have hcz26_2 : wr.cell? ⟨gb107, 2, none⟩ = some (.int .i64 1) := (blk_cell BK107.out 2).trans rfl; have hcz26_3 : wr.cell? ⟨gb107, 3, none⟩ = some (.int .i64 0) := (blk_cell BK107.out 3).trans rfl; have hcz26_4 : wr.cell? ⟨gb107, 4, none⟩ = some (.int .i64 0) := (blk_cell BK107.out 4).trans rfl; have hcz26_5 : wr.cell? ⟨gb107, 5, none⟩ = some (.int .i64 0) := (blk_cell BK107.out 5).trans rfl; have hcz26_6 : wr.cell? ⟨gb107, 6, none⟩ = some (.int .i64 (Int.tmod (wrap64 ((Int.tmod (wrap64 (x7_7 + (wrap64 (Int.tdiv x6_7 86400)))) 7) + 11)) 7)) := (blk_cell BK107.out 6).trans rfl; have hcz26_7 : wr.cell? ⟨gb107, 7, none⟩ = some (.int .i64 0) := (blk_cell BK107.out 7).trans rfl; have hfz26_0 := blk_frozen BK107.out 0; have hfz26_1 := blk_frozen BK107.out 1; have hfz26_2 := blk_frozen BK107.out 2; have hfz26_3 := blk_frozen BK107.out 3; have hfz26_4 := blk_frozen BK107.out 4; have hfz26_5 := blk_frozen BK107.out 5; have hfz26_6 := blk_frozen BK107.out 6; have hfz26_7 := blk_frozen BK107.out 7))
           go_loopg [7] k4 (fun kq v7 w' => ∃ (x7_5 : Int) (x108001_5 : Int), v7 = .int .i64 x7_5 ∧ Aside0 (domesdayref04_Of.l2 kq x5_2 (Int.tmod x6_7 86400) x7_5 x108000_4 x108001_5 1 0 0 0 (Int.tmod (wrap64 ((Int.tmod (wrap64 (x7_7 + (wrap64 (Int.tdiv x6_7 86400)))) 7) + 11)) 7) (wrap64 (x7_4 + 1)) = some (r1, r2, r3, r4, r5, r6, r7, r8)) ∧ Aside0 (kq ≤ k4) ∧ Aside0 (w'.heap[gb106]? = some (.cells #[.int .i64 0, .int .i64 0, .int .i64 0, .int .i64 0, .int .i64 0, .int .i64 0, .int .i64 0, .int .i64 0] 23 (0, 0))) ∧ Aside0 (w'.heap[gb107]? = some (.cells #[.int .i64 x108000_4, .int .i64 x108001_5, .int .i64 1, .int .i64 0, .int .i64 0, .int .i64 0, .int .i64 (Int.tmod (wrap64 ((Int.tmod (wrap64 (x7_7 + (wrap64 (Int.tdiv x6_7 86400)))) 7) + 11)) 7), .int .i64 (wrap64 (x7_4 + 1))] 23 (0, 0))) ∧ Aside0 (Below w.heap.size w w'))
           case atStart => exact ⟨(x7_4), (1), (by first | rfl | (simp; done) | (simp [*]; done)), H', ⟨Nat.le_refl _⟩, ⟨by (with_reducible repeat (first | refine blk_drewN ?_ _ | refine blk_drew ?_ | refine blk_alloc ?_ _)); refine blk_far ?_ NB106_107.out _; (with_reducible repeat (first | refine blk_drewN ?_ _ | refine blk_drew ?_ | refine blk_alloc ?_ _)); exact BK106.out⟩, ⟨by (with_reducible repeat (first | refine blk_drewN ?_ _ | refine blk_drew ?_ | refine blk_alloc ?_ _)); refine blk_put (cs := #[.int .i64 x108000_4, .int .i64 1, .int .i64 1, .int .i64 0, .int .i64 0, .int .i64 0, .int .i64 (Int.tmod (wrap64 ((Int.tmod (wrap64 (x7_7 + (wrap64 (Int.tdiv x6_7 86400)))) 7) + 11)) 7), .int .i64 0]) ?_ 7 _ (by first | rfl | (simp; done)); (with_reducible repeat (first | refine blk_drewN ?_ _ | refine blk_drew ?_ | refine blk_alloc ?_ _)); exact BK107.out⟩, ⟨by repeat (first | (with_reducible first | exact HB.out | apply below_alloc | apply pw_below_drewN | apply below_drew1 | refine below_set ?_ GE106.out | refine below_set ?_ GE107.out) | exact HB.out)⟩⟩
           case round =>
            clear H'
            (try clear c1); (try clear c2); (try clear p2); (try clear c3); (try clear c4); (try clear c5); (try clear c5b0); (try clear p6); (try clear c9); (try clear c9b0); (try clear c11); (try clear c13); (try clear c13b0); (try clear c15); (try clear c18); (try clear c18b0); (try clear c20); (try clear c24); (try clear hcz12_0); (try clear hcz12_1); (try clear hcz12_2); (try clear hcz12_3); (try clear hcz12_4); (try clear hcz12_5); (try clear hcz12_6); (try clear hcz12_7); (try clear hcz16_0); (try clear hcz16_1); (try clear hcz16_2); (try clear hcz16_3); (try clear hcz16_4); (try clear hcz16_5); (try clear hcz16_6); (try clear hcz16_7); (try clear hcz21_0); (try clear hcz21_1); (try clear hcz21_2); (try clear hcz21_3); (try clear hcz21_4); (try clear hcz21_5); (try clear hcz21_6); (try clear hcz21_7); (try clear hcz22_0); (try clear hcz22_1); (try clear hcz22_2); (try clear hcz22_3); (try clear hcz22_4); (try clear hcz22_5); (try clear hcz22_6); (try clear hcz22_7); (try clear hcz23_0); (try clear hcz23_1); (try clear hcz23_2); (try clear hcz23_3); (try clear hcz23_4); (try clear hcz23_5); (try clear hcz23_6); (try clear hcz23_7); (try clear hcz25_0); (try clear hcz25_1); (try clear hcz25_2); (try clear hcz25_3); (try clear hcz25_4); (try clear hcz25_5); (try clear hcz25_6); (try clear hcz25_7); (try clear hcz26_0); (try clear hcz26_1); (try clear hcz26_2); (try clear hcz26_3); (try clear hcz26_4); (try clear hcz26_5); (try clear hcz26_6); (try clear hcz26_7); (try clear hfz12_0); (try clear hfz12_1); (try clear hfz12_2); (try clear hfz12_3); (try clear hfz12_4); (try clear hfz12_5); (try clear hfz12_6); (try clear hfz12_7); (try clear hfz16_0); (try clear hfz16_1); (try clear hfz16_2); (try clear hfz16_3); (try clear hfz16_4); (try clear hfz16_5); (try clear hfz16_6); (try clear hfz16_7); (try clear hfz21_0); (try clear hfz21_1); (try clear hfz21_2); (try clear hfz21_3); (try clear hfz21_4); (try clear hfz21_5); (try clear hfz21_6); (try clear hfz21_7); (try clear hfz22_0); (try clear hfz22_1); (try clear hfz22_2); (try clear hfz22_3); (try clear hfz22_4); (try clear hfz22_5); (try clear hfz22_6); (try clear hfz22_7); (try clear hfz23_0); (try clear hfz23_1); (try clear hfz23_2); (try clear hfz23_3); (try clear hfz23_4); (try clear hfz23_5); (try clear hfz23_6); (try clear hfz23_7); (try clear hfz25_0); (try clear hfz25_1); (try clear hfz25_2); (try clear hfz25_3); (try clear hfz25_4); (try clear hfz25_5); (try clear hfz25_6); (try clear hfz25_7); (try clear hfz26_0); (try clear hfz26_1); (try clear hfz26_2); (try clear hfz26_3); (try clear hfz26_4); (try clear hfz26_5); (try clear hfz26_6); (try clear hfz26_7); (try clear p2); (try clear p6)
            obtain ⟨x7_5, x108001_5, rfl, HA, HK5, BK106, BK107, HB⟩ := hrel
            cases gk with
            | zero => exact absurd HA.out (by simp [domesdayref04_Of.l2])
            | succ k5 =>
             have H := HA.out
             clear HA
             simp only [domesdayref04_Of.l2] at H
             replace H := Option.bind_eq_some_iff.mp H
             obtain ⟨t111, A270, H⟩ := H
             replace H : (if x7_5 ≥ t111 then ((domesdayref04_Days.f k5 x108000_4 x108001_5).bind fun t112 => (domesdayref04_Of.l2 k5 x5_2 (Int.tmod x6_7 86400) (wrap64 (x7_5 - t112)) x108000_4 (wrap64 (x108001_5 + 1)) 1 0 0 0 (Int.tmod (wrap64 ((Int.tmod (wrap64 (x7_7 + (wrap64 (Int.tdiv x6_7 86400)))) 7) + 11)) 7) (wrap64 (x7_4 + 1)))) else (some (wrap64 (x108000_4 + (wrap64 (400 * x5_2))), x108001_5, wrap64 (x7_5 + 1), wrap64 (Int.tdiv (Int.tmod x6_7 86400) 3600), Int.tmod (wrap64 (Int.tdiv (Int.tmod x6_7 86400) 60)) 60, Int.tmod (Int.tmod x6_7 86400) 60, (Int.tmod (wrap64 ((Int.tmod (wrap64 (x7_7 + (wrap64 (Int.tdiv x6_7 86400)))) 7) + 11)) 7), (wrap64 (x7_4 + 1))))) = some (r1, r2, r3, r4, r5, r6, r7, r8) := H
             have A27 := Aside0.mk A270
             clear A270
             by_cases c28 : x7_5 ≥ t111
             ·rw [if_pos c28] at H
              have c28b0 : decide (t111 ≤ x7_5) = true := decide_eq_true c28
              clear c28
              replace H := Option.bind_eq_some_iff.mp H
              obtain ⟨t112, A290, H⟩ := H
              replace H : (domesdayref04_Of.l2 k5 x5_2 (Int.tmod x6_7 86400) (wrap64 (x7_5 - t112)) x108000_4 (wrap64 (x108001_5 + 1)) 1 0 0 0 (Int.tmod (wrap64 ((Int.tmod (wrap64 (x7_7 + (wrap64 (Int.tdiv x6_7 86400)))) 7) + 11)) 7) (wrap64 (x7_4 + 1))) = some (r1, r2, r3, r4, r5, r6, r7, r8) := H
              have A29 := Aside0.mk A290
              clear A290
              have H' := Aside0.mk H
              clear H
              have hnb30 := NB107_106.out; have hnc30 := NB106_107.out; have hcz31_0 : wr.cell? ⟨gb107, 0, none⟩ = some (.int .i64 x108000_4) := (blk_cell BK107.out 0).trans rfl; have hcz31_1 : wr.cell? ⟨gb107, 1, none⟩ = some (.int .i64 x108001_5) := (blk_cell BK107.out 1).trans rfl; have hcz31_2 : wr.cell? ⟨gb107, 2, none⟩ = some (.int .i64 1) := (blk_cell BK107.out 2).trans rfl; have hcz31_3 : wr.cell? ⟨gb107, 3, none⟩ = some (.int .i64 0) := (blk_cell BK107.out 3).trans rfl; have hcz31_4 : wr.cell? ⟨gb107, 4, none⟩ = some (.int .i64 0) := (blk_cell BK107.out 4).trans rfl; have hcz31_5 : wr.cell? ⟨gb107, 5, none⟩ = some (.int .i64 0) := (blk_cell BK107.out 5).trans rfl; have hcz31_6 : wr.cell? ⟨gb107, 6, none⟩ = some (.int .i64 (Int.tmod (wrap64 ((Int.tmod (wrap64 (x7_7 + (wrap64 (Int.tdiv x6_7 86400)))) 7) + 11)) 7)) := (blk_cell BK107.out 6).trans rfl; have hcz31_7 : wr.cell? ⟨gb107, 7, none⟩ = some (.int .i64 (wrap64 (x7_4 + 1))) := (blk_cell BK107.out 7).trans rfl; have hfz31_0 := blk_frozen BK107.out 0; have hfz31_1 := blk_frozen BK107.out 1; have hfz31_2 := blk_frozen BK107.out 2; have hfz31_3 := blk_frozen BK107.out 3; have hfz31_4 := blk_frozen BK107.out 4; have hfz31_5 := blk_frozen BK107.out 5; have hfz31_6 := blk_frozen BK107.out 6; have hfz31_7 := blk_frozen BK107.out 7
              go_wp2_with (first | ((with_reducible refine gate_callee (f := 41) rfl ?_); refine goesL_ (some 76) rfl rfl Tryd.func41 (by kernel_rfl) rfl #[.int .i64 x108000_4, .int .i64 x108001_5] rfl (by (try simp only [List.map_toArray, List.map_cons, List.map_nil]); first | done | rfl | (simp only [List.length_drop, List.length_take]; rfl)) ?_; (with_reducible refine (domesdayref04_Days.calls k5 x108000_4 x108001_5 t111 _ A27.out).mono ?_); rintro e w32 ⟨rfl, hb⟩; refine ⟨_, rfl, ?_⟩; have n0_ := Aside0.mk (blk_below (g := gb106) (o := .cells #[.int .i64 0, .int .i64 0, .int .i64 0, .int .i64 0, .int .i64 0, .int .i64 0, .int .i64 0, .int .i64 0] 23 (0, 0)) (by (with_reducible repeat (first | refine blk_drewN ?_ _ | refine blk_drew ?_ | refine blk_alloc ?_ _)); exact BK106.out) hb); have n1_ := Aside0.mk (blk_below (g := gb107) (o := .cells #[.int .i64 x108000_4, .int .i64 x108001_5, .int .i64 1, .int .i64 0, .int .i64 0, .int .i64 0, .int .i64 (Int.tmod (wrap64 ((Int.tmod (wrap64 (x7_7 + (wrap64 (Int.tdiv x6_7 86400)))) 7) + 11)) 7), .int .i64 (wrap64 (x7_4 + 1))] 23 (0, 0)) (by (with_reducible repeat (first | refine blk_drewN ?_ _ | refine blk_drew ?_ | refine blk_alloc ?_ _)); exact BK107.out) hb); have n2_ := Aside0.mk (below_step (by repeat (first | (with_reducible first | exact HB.out | apply below_alloc | apply pw_below_drewN | apply below_drew1 | refine below_set ?_ GE106.out | refine below_set ?_ GE107.out) | exact HB.out)) hb); clear BK106; clear BK107; clear HB; have BK106 := n0_; have BK107 := n1_; have HB := n2_; clear n0_ n1_ n2_; (try clear hb); (try clear hb2); (try clear hk); (try clear hi); have hcz33_0 : w32.cell? ⟨gb107, 0, none⟩ = some (.int .i64 x108000_4) := (blk_cell BK107.out 0).trans rfl; have hcz33_1 : w32.cell? ⟨gb107, 1, none⟩ = some (.int .i64 x108001_5) := (blk_cell BK107.out 1).trans rfl; have hcz33_2 : w32.cell? ⟨gb107, 2, none⟩ = some (.int .i64 1) := (blk_cell BK107.out 2).trans rfl; have hcz33_3 : w32.cell? ⟨gb107, 3, none⟩ = some (.int .i64 0) := (blk_cell BK107.out 3).trans rfl; have hcz33_4 : w32.cell? ⟨gb107, 4, none⟩ = some (.int .i64 0) := (blk_cell BK107.out 4).trans rfl; have hcz33_5 : w32.cell? ⟨gb107, 5, none⟩ = some (.int .i64 0) := (blk_cell BK107.out 5).trans rfl; have hcz33_6 : w32.cell? ⟨gb107, 6, none⟩ = some (.int .i64 (Int.tmod (wrap64 ((Int.tmod (wrap64 (x7_7 + (wrap64 (Int.tdiv x6_7 86400)))) 7) + 11)) 7)) := (blk_cell BK107.out 6).trans rfl; have hcz33_7 : w32.cell? ⟨gb107, 7, none⟩ = some (.int .i64 (wrap64 (x7_4 + 1))) := (blk_cell BK107.out 7).trans rfl; have hfz33_0 := blk_frozen BK107.out 0; have hfz33_1 := blk_frozen BK107.out 1; have hfz33_2 := blk_frozen BK107.out 2; have hfz33_3 := blk_frozen BK107.out 3; have hfz33_4 := blk_frozen BK107.out 4; have hfz33_5 := blk_frozen BK107.out 5; have hfz33_6 := blk_frozen BK107.out 6; have hfz33_7 := blk_frozen BK107.out 7) | ((with_reducible refine gate_callee (f := 41) rfl ?_); refine goesL_ (some 83) rfl rfl Tryd.func41 (by kernel_rfl) rfl #[.int .i64 x108000_4, .int .i64 x108001_5] rfl (by (try simp only [List.map_toArray, List.map_cons, List.map_nil]); first | done | rfl | (simp only [List.length_drop, List.length_take]; rfl)) ?_; (with_reducible refine (domesdayref04_Days.calls k5 x108000_4 x108001_5 t112 _ A29.out).mono ?_); rintro e w34 ⟨rfl, hb⟩; refine ⟨_, rfl, ?_⟩; have n0_ := Aside0.mk (blk_below (g := gb106) (o := .cells #[.int .i64 0, .int .i64 0, .int .i64 0, .int .i64 0, .int .i64 0, .int .i64 0, .int .i64 0, .int .i64 0] 23 (0, 0)) (by (with_reducible repeat (first | refine blk_drewN ?_ _ | refine blk_drew ?_ | refine blk_alloc ?_ _)); exact BK106.out) hb); have n1_ := Aside0.mk (blk_below (g := gb107) (o := .cells #[.int .i64 x108000_4, .int .i64 x108001_5, .int .i64 1, .int .i64 0, .int .i64 0, .int .i64 0, .int .i64 (Int.tmod (wrap64 ((Int.tmod (wrap64 (x7_7 + (wrap64 (Int.tdiv x6_7 86400)))) 7) + 11)) 7), .int .i64 (wrap64 (x7_4 + 1))] 23 (0, 0)) (by (with_reducible repeat (first | refine blk_drewN ?_ _ | refine blk_drew ?_ | refine blk_alloc ?_ _)); exact BK107.out) hb); have n2_ := Aside0.mk (below_step (by repeat (first | (with_reducible first | exact HB.out | apply below_alloc | apply pw_below_drewN | apply below_drew1 | refine below_set ?_ GE106.out | refine below_set ?_ GE107.out) | exact HB.out)) hb); clear BK106; clear BK107; clear HB; have BK106 := n0_; have BK107 := n1_; have HB := n2_; clear n0_ n1_ n2_; (try clear hb); (try clear hb2); (try clear hk); (try clear hi); have hcz35_0 : w34.cell? ⟨gb107, 0, none⟩ = some (.int .i64 x108000_4) := (blk_cell BK107.out 0).trans rfl; have hcz35_1 : w34.cell? ⟨gb107, 1, none⟩ = some (.int .i64 x108001_5) := (blk_cell BK107.out 1).trans rfl; have hcz35_2 : w34.cell? ⟨gb107, 2, none⟩ = some (.int .i64 1) := (blk_cell BK107.out 2).trans rfl; have hcz35_3 : w34.cell? ⟨gb107, 3, none⟩ = some (.int .i64 0) := (blk_cell BK107.out 3).trans rfl; have hcz35_4 : w34.cell? ⟨gb107, 4, none⟩ = some (.int .i64 0) := (blk_cell BK107.out 4).trans rfl; have hcz35_5 : w34.cell? ⟨gb107, 5, none⟩ = some (.int .i64 0) := (blk_cell BK107.out 5).trans rfl; have hcz35_6 : w34.cell? ⟨gb107, 6, none⟩ = some (.int .i64 (Int.tmod (wrap64 ((Int.tmod (wrap64 (x7_7 + (wrap64 (Int.tdiv x6_7 86400)))) 7) + 11)) 7)) := (blk_cell BK107.out 6).trans rfl; have hcz35_7 : w34.cell? ⟨gb107, 7, none⟩ = some (.int .i64 (wrap64 (x7_4 + 1))) := (blk_cell BK107.out 7).trans rfl; have hfz35_0 := blk_frozen BK107.out 0; have hfz35_1 := blk_frozen BK107.out 1; have hfz35_2 := blk_frozen BK107.out 2; have hfz35_3 := blk_frozen BK107.out 3; have hfz35_4 := blk_frozen BK107.out 4; have hfz35_5 := blk_frozen BK107.out 5; have hfz35_6 := blk_frozen BK107.out 6; have hfz35_7 := blk_frozen BK107.out 7))
              go_roundg k5
              case measure => have := HJ2.out; have := HJ7.out; have := HK3.out; have := HK4.out; have := HK5.out; omega
              case rel => exact ⟨(wrap64 (x7_5 - t112)), (wrap64 (x108001_5 + 1)), (by first | rfl | (simp; done) | (simp [*]; done)), H', ⟨by have := HJ2.out; have := HJ7.out; have := HK3.out; have := HK4.out; have := HK5.out; omega⟩, ⟨by (with_reducible repeat (first | refine blk_drewN ?_ _ | refine blk_drew ?_ | refine blk_alloc ?_ _)); refine blk_far ?_ NB106_107.out _; (with_reducible repeat (first | refine blk_drewN ?_ _ | refine blk_drew ?_ | refine blk_alloc ?_ _)); exact BK106.out⟩, ⟨by (with_reducible repeat (first | refine blk_drewN ?_ _ | refine blk_drew ?_ | refine blk_alloc ?_ _)); refine blk_put (cs := #[.int .i64 x108000_4, .int .i64 x108001_5, .int .i64 1, .int .i64 0, .int .i64 0, .int .i64 0, .int .i64 (Int.tmod (wrap64 ((Int.tmod (wrap64 (x7_7 + (wrap64 (Int.tdiv x6_7 86400)))) 7) + 11)) 7), .int .i64 (wrap64 (x7_4 + 1))]) ?_ 1 _ (by first | rfl | (simp; done)); (with_reducible repeat (first | refine blk_drewN ?_ _ | refine blk_drew ?_ | refine blk_alloc ?_ _)); exact BK107.out⟩, ⟨by repeat (first | (with_reducible first | exact HB.out | apply below_alloc | apply pw_below_drewN | apply below_drew1 | refine below_set ?_ GE106.out | refine below_set ?_ GE107.out) | exact HB.out)⟩⟩
             ·rw [if_neg c28] at H
              have c28b0 : decide (t111 ≤ x7_5) = false := decide_eq_false c28
              clear c28
              simp only [Option.some.injEq, Prod.mk.injEq] at H
              obtain ⟨rfl, rfl, rfl, rfl, rfl, rfl, rfl, rfl⟩ := H
              have hnb36 := NB107_106.out; have hnc36 := NB106_107.out; have hcz37_0 : wr.cell? ⟨gb107, 0, none⟩ = some (.int .i64 x108000_4) := (blk_cell BK107.out 0).trans rfl; have hcz37_1 : wr.cell? ⟨gb107, 1, none⟩ = some (.int .i64 x108001_5) := (blk_cell BK107.out 1).trans rfl; have hcz37_2 : wr.cell? ⟨gb107, 2, none⟩ = some (.int .i64 1) := (blk_cell BK107.out 2).trans rfl; have hcz37_3 : wr.cell? ⟨gb107, 3, none⟩ = some (.int .i64 0) := (blk_cell BK107.out 3).trans rfl; have hcz37_4 : wr.cell? ⟨gb107, 4, none⟩ = some (.int .i64 0) := (blk_cell BK107.out 4).trans rfl; have hcz37_5 : wr.cell? ⟨gb107, 5, none⟩ = some (.int .i64 0) := (blk_cell BK107.out 5).trans rfl; have hcz37_6 : wr.cell? ⟨gb107, 6, none⟩ = some (.int .i64 (Int.tmod (wrap64 ((Int.tmod (wrap64 (x7_7 + (wrap64 (Int.tdiv x6_7 86400)))) 7) + 11)) 7)) := (blk_cell BK107.out 6).trans rfl; have hcz37_7 : wr.cell? ⟨gb107, 7, none⟩ = some (.int .i64 (wrap64 (x7_4 + 1))) := (blk_cell BK107.out 7).trans rfl; have hfz37_0 := blk_frozen BK107.out 0; have hfz37_1 := blk_frozen BK107.out 1; have hfz37_2 := blk_frozen BK107.out 2; have hfz37_3 := blk_frozen BK107.out 3; have hfz37_4 := blk_frozen BK107.out 4; have hfz37_5 := blk_frozen BK107.out 5; have hfz37_6 := blk_frozen BK107.out 6; have hfz37_7 := blk_frozen BK107.out 7
              go_wp2_with (first | ((with_reducible refine gate_callee (f := 41) rfl ?_); refine goesL_ (some 76) rfl rfl Tryd.func41 (by kernel_rfl) rfl #[.int .i64 x108000_4, .int .i64 x108001_5] rfl (by (try simp only [List.map_toArray, List.map_cons, List.map_nil]); first | done | rfl | (simp only [List.length_drop, List.length_take]; rfl)) ?_; (with_reducible refine (domesdayref04_Days.calls k5 x108000_4 x108001_5 t111 _ A27.out).mono ?_); rintro e w38 ⟨rfl, hb⟩; refine ⟨_, rfl, ?_⟩; have n0_ := Aside0.mk (blk_below (g := gb106) (o := .cells #[.int .i64 0, .int .i64 0, .int .i64 0, .int .i64 0, .int .i64 0, .int .i64 0, .int .i64 0, .int .i64 0] 23 (0, 0)) (by (with_reducible repeat (first | refine blk_drewN ?_ _ | refine blk_drew ?_ | refine blk_alloc ?_ _)); exact BK106.out) hb); have n1_ := Aside0.mk (blk_below (g := gb107) (o := .cells #[.int .i64 x108000_4, .int .i64 x108001_5, .int .i64 1, .int .i64 0, .int .i64 0, .int .i64 0, .int .i64 (Int.tmod (wrap64 ((Int.tmod (wrap64 (x7_7 + (wrap64 (Int.tdiv x6_7 86400)))) 7) + 11)) 7), .int .i64 (wrap64 (x7_4 + 1))] 23 (0, 0)) (by (with_reducible repeat (first | refine blk_drewN ?_ _ | refine blk_drew ?_ | refine blk_alloc ?_ _)); exact BK107.out) hb); have n2_ := Aside0.mk (below_step (by repeat (first | (with_reducible first | exact HB.out | apply below_alloc | apply pw_below_drewN | apply below_drew1 | refine below_set ?_ GE106.out | refine below_set ?_ GE107.out) | exact HB.out)) hb); clear BK106; clear BK107; clear HB; have BK106 := n0_; have BK107 := n1_; have HB := n2_; clear n0_ n1_ n2_; (try clear hb); (try clear hb2); (try clear hk); (try clear hi); have hcz39_0 : w38.cell? ⟨gb107, 0, none⟩ = some (.int .i64 x108000_4) := (blk_cell BK107.out 0).trans rfl; have hcz39_1 : w38.cell? ⟨gb107, 1, none⟩ = some (.int .i64 x108001_5) := (blk_cell BK107.out 1).trans rfl; have hcz39_2 : w38.cell? ⟨gb107, 2, none⟩ = some (.int .i64 1) := (blk_cell BK107.out 2).trans rfl; have hcz39_3 : w38.cell? ⟨gb107, 3, none⟩ = some (.int .i64 0) := (blk_cell BK107.out 3).trans rfl; have hcz39_4 : w38.cell? ⟨gb107, 4, none⟩ = some (.int .i64 0) := (blk_cell BK107.out 4).trans rfl; have hcz39_5 : w38.cell? ⟨gb107, 5, none⟩ = some (.int .i64 0) := (blk_cell BK107.out 5).trans rfl; have hcz39_6 : w38.cell? ⟨gb107, 6, none⟩ = some (.int .i64 (Int.tmod (wrap64 ((Int.tmod (wrap64 (x7_7 + (wrap64 (Int.tdiv x6_7 86400)))) 7) + 11)) 7)) := (blk_cell BK107.out 6).trans rfl; have hcz39_7 : w38.cell? ⟨gb107, 7, none⟩ = some (.int .i64 (wrap64 (x7_4 + 1))) := (blk_cell BK107.out 7).trans rfl; have hfz39_0 := blk_frozen BK107.out 0; have hfz39_1 := blk_frozen BK107.out 1; have hfz39_2 := blk_frozen BK107.out 2; have hfz39_3 := blk_frozen BK107.out 3; have hfz39_4 := blk_frozen BK107.out 4; have hfz39_5 := blk_frozen BK107.out 5; have hfz39_6 := blk_frozen BK107.out 6; have hfz39_7 := blk_frozen BK107.out 7; have hcz40_0 : w38.cell? ⟨gb106, 0, none⟩ = some (.int .i64 0) := (blk_cell BK106.out 0).trans rfl; have hcz40_1 : w38.cell? ⟨gb106, 1, none⟩ = some (.int .i64 0) := (blk_cell BK106.out 1).trans rfl; have hcz40_2 : w38.cell? ⟨gb106, 2, none⟩ = some (.int .i64 0) := (blk_cell BK106.out 2).trans rfl; have hcz40_3 : w38.cell? ⟨gb106, 3, none⟩ = some (.int .i64 0) := (blk_cell BK106.out 3).trans rfl; have hcz40_4 : w38.cell? ⟨gb106, 4, none⟩ = some (.int .i64 0) := (blk_cell BK106.out 4).trans rfl; have hcz40_5 : w38.cell? ⟨gb106, 5, none⟩ = some (.int .i64 0) := (blk_cell BK106.out 5).trans rfl; have hcz40_6 : w38.cell? ⟨gb106, 6, none⟩ = some (.int .i64 0) := (blk_cell BK106.out 6).trans rfl; have hcz40_7 : w38.cell? ⟨gb106, 7, none⟩ = some (.int .i64 0) := (blk_cell BK106.out 7).trans rfl; have hfz40_0 := blk_frozen BK106.out 0; have hfz40_1 := blk_frozen BK106.out 1; have hfz40_2 := blk_frozen BK106.out 2; have hfz40_3 := blk_frozen BK106.out 3; have hfz40_4 := blk_frozen BK106.out 4; have hfz40_5 := blk_frozen BK106.out 5; have hfz40_6 := blk_frozen BK106.out 6; have hfz40_7 := blk_frozen BK106.out 7))
              refine bodyPost_ret (results_cell_row rfl _ _ gb106 23 #[.int .i64 (wrap64 (x108000_4 + (wrap64 (400 * x5_2)))), .int .i64 x108001_5, .int .i64 (wrap64 (x7_5 + 1)), .int .i64 (wrap64 (Int.tdiv (Int.tmod x6_7 86400) 3600)), .int .i64 (Int.tmod (wrap64 (Int.tdiv (Int.tmod x6_7 86400) 60)) 60), .int .i64 (Int.tmod (Int.tmod x6_7 86400) 60), .int .i64 (Int.tmod (wrap64 ((Int.tmod (wrap64 (x7_7 + (wrap64 (Int.tdiv x6_7 86400)))) 7) + 11)) 7), .int .i64 (wrap64 (x7_4 + 1))] (0, 0) _ rfl (by (with_reducible repeat (first | refine blk_drewN ?_ _ | refine blk_drew ?_ | refine blk_alloc ?_ _)); refine blk_put (cs := #[.int .i64 (wrap64 (x108000_4 + (wrap64 (400 * x5_2)))), .int .i64 x108001_5, .int .i64 (wrap64 (x7_5 + 1)), .int .i64 (wrap64 (Int.tdiv (Int.tmod x6_7 86400) 3600)), .int .i64 (Int.tmod (wrap64 (Int.tdiv (Int.tmod x6_7 86400) 60)) 60), .int .i64 (Int.tmod (Int.tmod x6_7 86400) 60), .int .i64 (Int.tmod (wrap64 ((Int.tmod (wrap64 (x7_7 + (wrap64 (Int.tdiv x6_7 86400)))) 7) + 11)) 7), .int .i64 0]) ?_ 7 _ (by first | rfl | (simp; done)); (with_reducible repeat (first | refine blk_drewN ?_ _ | refine blk_drew ?_ | refine blk_alloc ?_ _)); refine blk_put (cs := #[.int .i64 (wrap64 (x108000_4 + (wrap64 (400 * x5_2)))), .int .i64 x108001_5, .int .i64 (wrap64 (x7_5 + 1)), .int .i64 (wrap64 (Int.tdiv (Int.tmod x6_7 86400) 3600)), .int .i64 (Int.tmod (wrap64 (Int.tdiv (Int.tmod x6_7 86400) 60)) 60), .int .i64 (Int.tmod (Int.tmod x6_7 86400) 60), .int .i64 0, .int .i64 0]) ?_ 6 _ (by first | rfl | (simp; done)); (with_reducible repeat (first | refine blk_drewN ?_ _ | refine blk_drew ?_ | refine blk_alloc ?_ _)); refine blk_put (cs := #[.int .i64 (wrap64 (x108000_4 + (wrap64 (400 * x5_2)))), .int .i64 x108001_5, .int .i64 (wrap64 (x7_5 + 1)), .int .i64 (wrap64 (Int.tdiv (Int.tmod x6_7 86400) 3600)), .int .i64 (Int.tmod (wrap64 (Int.tdiv (Int.tmod x6_7 86400) 60)) 60), .int .i64 0, .int .i64 0, .int .i64 0]) ?_ 5 _ (by first | rfl | (simp; done)); (with_reducible repeat (first | refine blk_drewN ?_ _ | refine blk_drew ?_ | refine blk_alloc ?_ _)); refine blk_put (cs := #[.int .i64 (wrap64 (x108000_4 + (wrap64 (400 * x5_2)))), .int .i64 x108001_5, .int .i64 (wrap64 (x7_5 + 1)), .int .i64 (wrap64 (Int.tdiv (Int.tmod x6_7 86400) 3600)), .int .i64 0, .int .i64 0, .int .i64 0, .int .i64 0]) ?_ 4 _ (by first | rfl | (simp; done)); (with_reducible repeat (first | refine blk_drewN ?_ _ | refine blk_drew ?_ | refine blk_alloc ?_ _)); refine blk_put (cs := #[.int .i64 (wrap64 (x108000_4 + (wrap64 (400 * x5_2)))), .int .i64 x108001_5, .int .i64 (wrap64 (x7_5 + 1)), .int .i64 0, .int .i64 0, .int .i64 0, .int .i64 0, .int .i64 0]) ?_ 3 _ (by first | rfl | (simp; done)); (with_reducible repeat (first | refine blk_drewN ?_ _ | refine blk_drew ?_ | refine blk_alloc ?_ _)); refine blk_put (cs := #[.int .i64 (wrap64 (x108000_4 + (wrap64 (400 * x5_2)))), .int .i64 x108001_5, .int .i64 0, .int .i64 0, .int .i64 0, .int .i64 0, .int .i64 0, .int .i64 0]) ?_ 2 _ (by first | rfl | (simp; done)); (with_reducible repeat (first | refine blk_drewN ?_ _ | refine blk_drew ?_ | refine blk_alloc ?_ _)); refine blk_put (cs := #[.int .i64 (wrap64 (x108000_4 + (wrap64 (400 * x5_2)))), .int .i64 0, .int .i64 0, .int .i64 0, .int .i64 0, .int .i64 0, .int .i64 0, .int .i64 0]) ?_ 1 _ (by first | rfl | (simp; done)); (with_reducible repeat (first | refine blk_drewN ?_ _ | refine blk_drew ?_ | refine blk_alloc ?_ _)); refine blk_put (cs := #[.int .i64 0, .int .i64 0, .int .i64 0, .int .i64 0, .int .i64 0, .int .i64 0, .int .i64 0, .int .i64 0]) ?_ 0 _ (by first | rfl | (simp; done)); (with_reducible repeat (first | refine blk_drewN ?_ _ | refine blk_drew ?_ | refine blk_alloc ?_ _)); refine blk_far ?_ NB106_107.out _; (with_reducible repeat (first | refine blk_drewN ?_ _ | refine blk_drew ?_ | refine blk_alloc ?_ _)); refine blk_far ?_ NB106_107.out _; (with_reducible repeat (first | refine blk_drewN ?_ _ | refine blk_drew ?_ | refine blk_alloc ?_ _)); refine blk_far ?_ NB106_107.out _; (with_reducible repeat (first | refine blk_drewN ?_ _ | refine blk_drew ?_ | refine blk_alloc ?_ _)); refine blk_far ?_ NB106_107.out _; (with_reducible repeat (first | refine blk_drewN ?_ _ | refine blk_drew ?_ | refine blk_alloc ?_ _)); refine blk_far ?_ NB106_107.out _; (with_reducible repeat (first | refine blk_drewN ?_ _ | refine blk_drew ?_ | refine blk_alloc ?_ _)); exact BK106.out) Tryd.underlying23 rfl (by kernel_rfl)) rfl ?_
              exact ⟨by first | rfl | (simp [errW_none, errW_some] <;> rfl) | (simp only [← hji6, ← hji7]; first | rfl | (simp [errW_none, errW_some] <;> rfl)) | (simp [*, errW_none, errW_some] <;> rfl), by repeat (first | (with_reducible first | exact HB.out | apply below_alloc | apply pw_below_drewN | apply below_drew1 | refine below_set ?_ GE106.out | refine below_set ?_ GE107.out) | exact HB.out)⟩
end Go.Proofs.YtbbnjpnpgcjelaaDoor.QStm
