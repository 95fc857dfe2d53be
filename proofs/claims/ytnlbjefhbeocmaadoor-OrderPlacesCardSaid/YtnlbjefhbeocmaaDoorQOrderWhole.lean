-- Made by a program of this session.
import Derived.Test.YtnlbjefhbeocmaaDoorQOrderComparesx3
namespace Go.Proofs.YtnlbjefhbeocmaaDoor.QOrderCompares
open Go.RowKit Go.Proofs.YtnlbjefhbeocmaaDoorW.PrintWords Go.Proofs.YtnlbjefhbeocmaaDoorW.PrintLast Go.Proofs.YtnlbjefhbeocmaaDoorW.PrintMore
attribute [local go_sem] max2_int min2_int max_two min_two max_three min_three max_four min_four   -- for this text's walks alone
open Go.Proofs.YtnlbjefhbeocmaaDoor.Ext
set_option linter.unusedVariables false
set_option linter.unusedSimpArgs false

/-! ### order_whole: function 29 -/
def order_whole.j0 : Nat → Int → Bool → Bool → ByteArray → Int → Int → Bool → ByteArray → Int → Int → Bool → Option (Int)
 | 0, _, _, _, _, _, _, _, _, _, _, _ => none
 | k + 1, x0, x1, x18, x170000, x170001, x170002, x170003, x171000, x171001, x171002, x171003 => if x18 = true then (if x170003 = true then (some (-1)) else (some 1)) else (if x1 = true then ((order_Compare.f k x0 x171000 x171001 x171002 x171003 x170000 x170001 x170002 x170003).bind fun t171 => (some t171)) else ((order_Compare.f k x0 x170000 x170001 x170002 x170003 x171000 x171001 x171002 x171003).bind fun t172 => (some t172)))
def order_whole.f (k : Nat) (a0 : Int) (a1 : Bool) (a2 : Bool) (a3_0 : ByteArray) (a3_1 : Int) (a3_2 : Int) (a3_3 : Bool) (a4_0 : ByteArray) (a4_1 : Int) (a4_2 : Int) (a4_3 : Bool) : Option (Int) := if a2 = true then (order_whole.j0 k a0 a1 (a3_3 != a4_3) a3_0 a3_1 a3_2 a3_3 a4_0 a4_1 a4_2 a4_3) else (order_whole.j0 k a0 a1 false a3_0 a3_1 a3_2 a3_3 a4_0 a4_1 a4_2 a4_3)
theorem order_whole.mono_l : ∀ k, (∀ y0 y1 y2 y3 y4 y5 y6 y7 y8 y9 y10, LeO (order_whole.j0 k y0 y1 y2 y3 y4 y5 y6 y7 y8 y9 y10) (order_whole.j0 (k + 1) y0 y1 y2 y3 y4 y5 y6 y7 y8 y9 y10))
 | 0 => fun _ _ _ _ _ _ _ _ _ _ _ r h => by simp [order_whole.j0] at h
 | k + 1 => by
  have ih0 := order_whole.mono_l k
  ·intro y0 y1 y2 y3 y4 y5 y6 y7 y8 y9 y10
   unfold order_whole.j0
   repeat' first
   | (with_reducible exact ih0 _ _ _ _ _ _ _ _ _ _ _)
   | (with_reducible exact order_Compare.mono _ _ _ _ _ _ _ _ _ _)
   | (with_reducible exact LeO.refl _)
   | (with_reducible exact LeO.none _)
   | (with_reducible refine LeO.ite ?_ ?_)
   | (with_reducible refine LeO.bind ?_ (fun _ => ?_))
   | exact ih0 _ _ _ _ _ _ _ _ _ _ _
   | exact order_Compare.mono _ _ _ _ _ _ _ _ _ _
   | exact LeO.none _
   | refine LeO.ite ?_ ?_
   | refine LeO.bind ?_ (fun _ => ?_)
theorem order_whole.mono : ∀ a0 a1 a2 a3 a4 a5 a6 a7 a8 a9 a10 k, LeO (order_whole.f k a0 a1 a2 a3 a4 a5 a6 a7 a8 a9 a10) (order_whole.f (k + 1) a0 a1 a2 a3 a4 a5 a6 a7 a8 a9 a10) := by
 intro a0 a1 a2 a3 a4 a5 a6 a7 a8 a9 a10 k
 have ih0 := order_whole.mono_l k
 unfold order_whole.f
 repeat' first
   | (with_reducible exact ih0 _ _ _ _ _ _ _ _ _ _ _)
   | (with_reducible exact order_Compare.mono _ _ _ _ _ _ _ _ _ _)
   | (with_reducible exact LeO.refl _)
   | (with_reducible exact LeO.none _)
   | (with_reducible refine LeO.ite ?_ ?_)
   | (with_reducible refine LeO.bind ?_ (fun _ => ?_))
   | exact ih0 _ _ _ _ _ _ _ _ _ _ _
   | exact order_Compare.mono _ _ _ _ _ _ _ _ _ _
   | exact LeO.none _
   | refine LeO.ite ?_ ?_
   | refine LeO.bind ?_ (fun _ => ?_)
set_option maxHeartbeats 8000000 in
set_option maxRecDepth 100000 in
theorem order_whole.calls (k : Nat) (a0 : Int) (a1 : Bool) (a2 : Bool) (a3_0 : ByteArray) (a3_1 : Int) (a3_2 : Int) (a3_3 : Bool) (a4_0 : ByteArray) (a4_1 : Int) (a4_2 : Int) (a4_3 : Bool) (r : Int) (w : World) (h : order_whole.f k a0 a1 a2 a3_0 a3_1 a3_2 a3_3 a4_0 a4_1 a4_2 a4_3 = some r) :
  Calls Tryd.prog 29 #[.int .i64 a0, .bool a1, .bool a2, .agg #[.string a3_0, .int .i64 a3_1, .int .i64 a3_2, .bool a3_3], .agg #[.string a4_0, .int .i64 a4_1, .int .i64 a4_2, .bool a4_3]] w fun e w' => e = .returned (.int .i64 r) ∧ Below w.heap.size w w' := by
 have hu23 := Tryd.underlying23
 have HB := Aside0.mk (Below.refl w.heap.size w)
 have H : (if a2 = true then (order_whole.j0 k a0 a1 (a3_3 != a4_3) a3_0 a3_1 a3_2 a3_3 a4_0 a4_1 a4_2 a4_3) else (order_whole.j0 k a0 a1 false a3_0 a3_1 a3_2 a3_3 a4_0 a4_1 a4_2 a4_3)) = some r := h
 clear h
 have HC6 := Aside0.mk H
 clear H
 go_enter Tryd.func29, Tryd.ntmps29
 go_upto_region 1 with (first | ((with_reducible refine gate_dst (N := 8) rfl ?_); refine box_event ?hg (N := 8) ?hd (cs := #[.string a3_0, .int .i64 a3_1, .int .i64 a3_2, .bool a3_3]) (t := 23) ?hr ?_; (case hd => rfl); (case hg => rfl); (case hr => first | (go_simp; done) | (go_simp; rfl)); intro gb169 hg w7 hbox hb; have n0_ := Aside0.mk (below_step (by repeat (first | (with_reducible first | exact HB.out | apply below_alloc | apply pw_below_drewN | apply below_drew1) | exact HB.out)) hb); have n1_ := Aside0.mk (hbox); have n2_ := Aside0.mk ((by rw [hg]; exact (below_size (by repeat (first | (with_reducible first | exact HB.out | apply below_alloc | apply pw_below_drewN | apply below_drew1) | exact HB.out))) : w.heap.size ≤ gb169)); have n3_ := Aside0.mk ((by rw [hg]; exact (below_size (by repeat (first | (with_reducible first | exact HB.out | apply below_alloc | apply pw_below_drewN | apply below_drew1) | exact HB.out))) : w.heap.size ≤ gb169)); clear HB; have HB := n0_; have BK169 := n1_; have GW169 := n2_; have GE169 := n3_; clear n0_ n1_ n2_ n3_; clear hb hbox hg) | ((with_reducible refine gate_dst (N := 9) rfl ?_); refine box_event ?hg (N := 9) ?hd (cs := #[.string a4_0, .int .i64 a4_1, .int .i64 a4_2, .bool a4_3]) (t := 23) ?hr ?_; (case hd => rfl); (case hg => rfl); (case hr => first | (go_simp; done) | (go_simp; rfl)); intro gb170 hg w8 hbox hb; have n0_ := Aside0.mk (blk_below (g := gb169) (o := .cells #[.string a3_0, .int .i64 a3_1, .int .i64 a3_2, .bool a3_3] 23 (0, 0)) (by (with_reducible repeat (first | refine blk_drewN ?_ _ | refine blk_drew ?_ | refine blk_alloc ?_ _)); exact BK169.out) hb); have n1_ := Aside0.mk (below_step (by repeat (first | (with_reducible first | exact HB.out | apply below_alloc | apply pw_below_drewN | apply below_drew1 | refine below_set ?_ GE169.out) | exact HB.out)) hb); have n2_ := Aside0.mk (hbox); have n3_ := Aside0.mk ((by rw [hg]; exact (below_size (by repeat (first | (with_reducible first | exact HB.out | apply below_alloc | apply pw_below_drewN | apply below_drew1 | refine below_set ?_ GE169.out) | exact HB.out))) : w.heap.size ≤ gb170)); have n4_ := Aside0.mk ((by rw [hg]; exact (below_size (by repeat (first | (with_reducible first | exact HB.out | apply below_alloc | apply pw_below_drewN | apply below_drew1 | refine below_set ?_ GE169.out) | exact HB.out))) : w.heap.size ≤ gb170)); have n5_ := Aside0.mk ((by rw [hg]; exact Nat.ne_of_lt (blk_lt (g := gb169) (o := .cells #[.string a3_0, .int .i64 a3_1, .int .i64 a3_2, .bool a3_3] 23 (0, 0)) (by (with_reducible repeat (first | refine blk_drewN ?_ _ | refine blk_drew ?_ | refine blk_alloc ?_ _)); exact BK169.out)) : gb169 ≠ gb170)); have n6_ := Aside0.mk ((by rw [hg]; exact Nat.ne_of_gt (blk_lt (g := gb169) (o := .cells #[.string a3_0, .int .i64 a3_1, .int .i64 a3_2, .bool a3_3] 23 (0, 0)) (by (with_reducible repeat (first | refine blk_drewN ?_ _ | refine blk_drew ?_ | refine blk_alloc ?_ _)); exact BK169.out)) : gb170 ≠ gb169)); clear BK169; clear HB; have BK169 := n0_; have HB := n1_; have BK170 := n2_; have GW170 := n3_; have GE170 := n4_; have NB169_170 := n5_; have NB170_169 := n6_; clear n0_ n1_ n2_ n3_ n4_ n5_ n6_; clear hb hbox hg))
 (try simp only [Act.put, List.setIfInBounds_toArray, List.set_cons_zero, List.set_cons_succ])
 go_cut [18] (fun v18 wc => ∃ (kq : Nat) (x18_5 : Bool), v18 = .bool x18_5 ∧ Aside0 (order_whole.j0 kq a0 a1 x18_5 a3_0 a3_1 a3_2 a3_3 a4_0 a4_1 a4_2 a4_3 = some r) ∧ Aside0 (kq ≤ k) ∧ Aside0 (wc.heap[gb169]? = some (.cells #[.string a3_0, .int .i64 a3_1, .int .i64 a3_2, .bool a3_3] 23 (0, 0))) ∧ Aside0 (wc.heap[gb170]? = some (.cells #[.string a4_0, .int .i64 a4_1, .int .i64 a4_2, .bool a4_3] 23 (0, 0))) ∧ Aside0 (Below w.heap.size w wc))
 case first =>
  have H := HC6.out
  clear HC6
  by_cases c9 : a2 = true
  ·subst c9
   have H1 : (order_whole.j0 k a0 a1 (a3_3 != a4_3) a3_0 a3_1 a3_2 a3_3 a4_0 a4_1 a4_2 a4_3) = some r := by rw [if_pos rfl] at H; exact H
   clear H
   have H := H1
   clear H1
   have H' := Aside0.mk H
   clear H
   have hnb10 := NB169_170.out; have hnc10 := NB170_169.out; have hcz11_0 : w8.cell? ⟨gb169, 0, none⟩ = some (.string a3_0) := (blk_cell BK169.out 0).trans rfl; have hcz11_1 : w8.cell? ⟨gb169, 1, none⟩ = some (.int .i64 a3_1) := (blk_cell BK169.out 1).trans rfl; have hcz11_2 : w8.cell? ⟨gb169, 2, none⟩ = some (.int .i64 a3_2) := (blk_cell BK169.out 2).trans rfl; have hcz11_3 : w8.cell? ⟨gb169, 3, none⟩ = some (.bool a3_3) := (blk_cell BK169.out 3).trans rfl; have hfz11_0 := blk_frozen BK169.out 0; have hfz11_1 := blk_frozen BK169.out 1; have hfz11_2 := blk_frozen BK169.out 2; have hfz11_3 := blk_frozen BK169.out 3; have hcz12_0 : w8.cell? ⟨gb170, 0, none⟩ = some (.string a4_0) := (blk_cell BK170.out 0).trans rfl; have hcz12_1 : w8.cell? ⟨gb170, 1, none⟩ = some (.int .i64 a4_1) := (blk_cell BK170.out 1).trans rfl; have hcz12_2 : w8.cell? ⟨gb170, 2, none⟩ = some (.int .i64 a4_2) := (blk_cell BK170.out 2).trans rfl; have hcz12_3 : w8.cell? ⟨gb170, 3, none⟩ = some (.bool a4_3) := (blk_cell BK170.out 3).trans rfl; have hfz12_0 := blk_frozen BK170.out 0; have hfz12_1 := blk_frozen BK170.out 1; have hfz12_2 := blk_frozen BK170.out 2; have hfz12_3 := blk_frozen BK170.out 3
   go_wp2
   go_meet
   case rel => exact ⟨_, ((a3_3 != a4_3)), (by first | rfl | (simp; done) | (simp [*]; done)), H', ⟨by first | omega | exact Nat.le_refl _⟩, ⟨by (with_reducible repeat (first | refine blk_drewN ?_ _ | refine blk_drew ?_ | refine blk_alloc ?_ _)); exact BK169.out⟩, ⟨by (with_reducible repeat (first | refine blk_drewN ?_ _ | refine blk_drew ?_ | refine blk_alloc ?_ _)); exact BK170.out⟩, ⟨by repeat (first | (with_reducible first | exact HB.out | apply below_alloc | apply pw_below_drewN | apply below_drew1 | refine below_set ?_ GE169.out | refine below_set ?_ GE170.out) | exact HB.out)⟩⟩
  ·replace c9 := Bool.eq_false_iff.mpr c9
   subst c9
   have H1 : (order_whole.j0 k a0 a1 false a3_0 a3_1 a3_2 a3_3 a4_0 a4_1 a4_2 a4_3) = some r := by rw [if_neg (show ¬ (false = true) by decide)] at H; exact H
   clear H
   have H := H1
   clear H1
   have H' := Aside0.mk H
   clear H
   go_wp2
   go_meet
   case rel => exact ⟨_, (false), (by first | rfl | (simp; done) | (simp [*]; done)), H', ⟨by first | omega | exact Nat.le_refl _⟩, ⟨by (with_reducible repeat (first | refine blk_drewN ?_ _ | refine blk_drew ?_ | refine blk_alloc ?_ _)); exact BK169.out⟩, ⟨by (with_reducible repeat (first | refine blk_drewN ?_ _ | refine blk_drew ?_ | refine blk_alloc ?_ _)); exact BK170.out⟩, ⟨by repeat (first | (with_reducible first | exact HB.out | apply below_alloc | apply pw_below_drewN | apply below_drew1 | refine below_set ?_ GE169.out | refine below_set ?_ GE170.out) | exact HB.out)⟩⟩
 case rest =>
  clear HC6
  (try clear c1); (try clear c2); (try clear p2); (try clear c9); (try clear c10); (try clear hcz11_0); (try clear hcz11_1); (try clear hcz11_2); (try clear hcz11_3); (try clear hcz12_0); (try clear hcz12_1); (try clear hcz12_2); (try clear hcz12_3); (try clear hfz11_0); (try clear hfz11_1); (try clear hfz11_2); (try clear hfz11_3); (try clear hfz12_0); (try clear hfz12_1); (try clear hfz12_2); (try clear hfz12_3)
  obtain ⟨kq, x18_5, rfl, HA, HJ5, BK169, BK170, HB⟩ := hcut
  cases kq with
  | zero => exact absurd HA.out (by simp [order_whole.j0])
  | succ kj5 =>
   have H := HA.out
   clear HA
   simp only [order_whole.j0] at H
   by_cases c13 : x18_5 = true
   ·subst c13
    have H1 : (if a3_3 = true then (some (-1)) else (some 1)) = some r := by rw [if_pos rfl] at H; exact H
    clear H
    have H := H1
    clear H1
    by_cases c14 : a3_3 = true
    ·subst c14
     have H1 : (some (-1)) = some r := by rw [if_pos rfl] at H; exact H
     clear H
     have H := H1
     clear H1
     obtain rfl := Option.some.inj H
     have hnb15 := NB169_170.out; have hnc15 := NB170_169.out; have hcz16_0 : wc.cell? ⟨gb169, 0, none⟩ = some (.string a3_0) := (blk_cell BK169.out 0).trans rfl; have hcz16_1 : wc.cell? ⟨gb169, 1, none⟩ = some (.int .i64 a3_1) := (blk_cell BK169.out 1).trans rfl; have hcz16_2 : wc.cell? ⟨gb169, 2, none⟩ = some (.int .i64 a3_2) := (blk_cell BK169.out 2).trans rfl; have hcz16_3 : wc.cell? ⟨gb169, 3, none⟩ = some (.bool true) := (blk_cell BK169.out 3).trans rfl; have hfz16_0 := blk_frozen BK169.out 0; have hfz16_1 := blk_frozen BK169.out 1; have hfz16_2 := blk_frozen BK169.out 2; have hfz16_3 := blk_frozen BK169.out 3
     go_wp2
     go_ret
     exact ⟨by first | rfl | (simp [errW_none, errW_some] <;> rfl) | (simp [*, errW_none, errW_some] <;> rfl), by repeat (first | (with_reducible first | exact HB.out | apply below_alloc | apply pw_below_drewN | apply below_drew1 | refine below_set ?_ GE169.out | refine below_set ?_ GE170.out) | exact HB.out)⟩
    ·replace c14 := Bool.eq_false_iff.mpr c14
     subst c14
     have H1 : (some 1) = some r := by rw [if_neg (show ¬ (false = true) by decide)] at H; exact H
     clear H
     have H := H1
     clear H1
     obtain rfl := Option.some.inj H
     have hnb17 := NB169_170.out; have hnc17 := NB170_169.out; have hcz18_0 : wc.cell? ⟨gb169, 0, none⟩ = some (.string a3_0) := (blk_cell BK169.out 0).trans rfl; have hcz18_1 : wc.cell? ⟨gb169, 1, none⟩ = some (.int .i64 a3_1) := (blk_cell BK169.out 1).trans rfl; have hcz18_2 : wc.cell? ⟨gb169, 2, none⟩ = some (.int .i64 a3_2) := (blk_cell BK169.out 2).trans rfl; have hcz18_3 : wc.cell? ⟨gb169, 3, none⟩ = some (.bool false) := (blk_cell BK169.out 3).trans rfl; have hfz18_0 := blk_frozen BK169.out 0; have hfz18_1 := blk_frozen BK169.out 1; have hfz18_2 := blk_frozen BK169.out 2; have hfz18_3 := blk_frozen BK169.out 3
     go_wp2
     go_ret
     exact ⟨by first | rfl | (simp [errW_none, errW_some] <;> rfl) | (simp [*, errW_none, errW_some] <;> rfl), by repeat (first | (with_reducible first | exact HB.out | apply below_alloc | apply pw_below_drewN | apply below_drew1 | refine below_set ?_ GE169.out | refine below_set ?_ GE170.out) | exact HB.out)⟩
   ·replace c13 := Bool.eq_false_iff.mpr c13
    subst c13
    have H1 : (if a1 = true then ((order_Compare.f kj5 a0 a4_0 a4_1 a4_2 a4_3 a3_0 a3_1 a3_2 a3_3).bind fun t171 => (some t171)) else ((order_Compare.f kj5 a0 a3_0 a3_1 a3_2 a3_3 a4_0 a4_1 a4_2 a4_3).bind fun t172 => (some t172))) = some r := by rw [if_neg (show ¬ (false = true) by decide)] at H; exact H
    clear H
    have H := H1
    clear H1
    by_cases c19 : a1 = true
    ·subst c19
     have H1 : ((order_Compare.f kj5 a0 a4_0 a4_1 a4_2 a4_3 a3_0 a3_1 a3_2 a3_3).bind fun t171 => (some t171)) = some r := by rw [if_pos rfl] at H; exact H
     clear H
     have H := H1
     clear H1
     replace H := Option.bind_eq_some_iff.mp H
     obtain ⟨t171, A200, H⟩ := H
     replace H : (some t171) = some r := H
     have A20 := Aside0.mk A200
     clear A200
     obtain rfl := Option.some.inj H
     have hnb21 := NB170_169.out; have hnc21 := NB169_170.out; have hcz22_0 : wc.cell? ⟨gb170, 0, none⟩ = some (.string a4_0) := (blk_cell BK170.out 0).trans rfl; have hcz22_1 : wc.cell? ⟨gb170, 1, none⟩ = some (.int .i64 a4_1) := (blk_cell BK170.out 1).trans rfl; have hcz22_2 : wc.cell? ⟨gb170, 2, none⟩ = some (.int .i64 a4_2) := (blk_cell BK170.out 2).trans rfl; have hcz22_3 : wc.cell? ⟨gb170, 3, none⟩ = some (.bool a4_3) := (blk_cell BK170.out 3).trans rfl; have hfz22_0 := blk_frozen BK170.out 0; have hfz22_1 := blk_frozen BK170.out 1; have hfz22_2 := blk_frozen BK170.out 2; have hfz22_3 := blk_frozen BK170.out 3; have hcz23_0 : wc.cell? ⟨gb169, 0, none⟩ = some (.string a3_0) := (blk_cell BK169.out 0).trans rfl; have hcz23_1 : wc.cell? ⟨gb169, 1, none⟩ = some (.int .i64 a3_1) := (blk_cell BK169.out 1).trans rfl; have hcz23_2 : wc.cell? ⟨gb169, 2, none⟩ = some (.int .i64 a3_2) := (blk_cell BK169.out 2).trans rfl; have hcz23_3 : wc.cell? ⟨gb169, 3, none⟩ = some (.bool a3_3) := (blk_cell BK169.out 3).trans rfl; have hfz23_0 := blk_frozen BK169.out 0; have hfz23_1 := blk_frozen BK169.out 1; have hfz23_2 := blk_frozen BK169.out 2; have hfz23_3 := blk_frozen BK169.out 3
     go_wp2_with (first | ((with_reducible refine gate_callee (f := 10) rfl ?_); refine goesL_ (some 25) rfl rfl Tryd.func10 (by kernel_rfl) rfl #[.int .i64 a0, .agg #[.string a4_0, .int .i64 a4_1, .int .i64 a4_2, .bool a4_3], .agg #[.string a3_0, .int .i64 a3_1, .int .i64 a3_2, .bool a3_3]] rfl (by (try simp only [List.map_toArray, List.map_cons, List.map_nil]); first | done | rfl | (simp only [List.length_drop, List.length_take]; rfl)) ?_; (with_reducible refine (order_Compare.calls kj5 a0 a4_0 a4_1 a4_2 a4_3 a3_0 a3_1 a3_2 a3_3 t171 _ A20.out).mono ?_); rintro e w24 ⟨rfl, hb⟩; refine ⟨_, rfl, ?_⟩; have n0_ := Aside0.mk (blk_below (g := gb169) (o := .cells #[.string a3_0, .int .i64 a3_1, .int .i64 a3_2, .bool a3_3] 23 (0, 0)) (by (with_reducible repeat (first | refine blk_drewN ?_ _ | refine blk_drew ?_ | refine blk_alloc ?_ _)); exact BK169.out) hb); have n1_ := Aside0.mk (blk_below (g := gb170) (o := .cells #[.string a4_0, .int .i64 a4_1, .int .i64 a4_2, .bool a4_3] 23 (0, 0)) (by (with_reducible repeat (first | refine blk_drewN ?_ _ | refine blk_drew ?_ | refine blk_alloc ?_ _)); exact BK170.out) hb); have n2_ := Aside0.mk (below_step (by repeat (first | (with_reducible first | exact HB.out | apply below_alloc | apply pw_below_drewN | apply below_drew1 | refine below_set ?_ GE169.out | refine below_set ?_ GE170.out) | exact HB.out)) hb); clear BK169; clear BK170; clear HB; have BK169 := n0_; have BK170 := n1_; have HB := n2_; clear n0_ n1_ n2_; (try clear hb); (try clear hb2); (try clear hk); (try clear hi)))
     go_ret
     exact ⟨by first | rfl | (simp [errW_none, errW_some] <;> rfl) | (simp [*, errW_none, errW_some] <;> rfl), by repeat (first | (with_reducible first | exact HB.out | apply below_alloc | apply pw_below_drewN | apply below_drew1 | refine below_set ?_ GE169.out | refine below_set ?_ GE170.out) | exact HB.out)⟩
    ·replace c19 := Bool.eq_false_iff.mpr c19
     subst c19
     have H1 : ((order_Compare.f kj5 a0 a3_0 a3_1 a3_2 a3_3 a4_0 a4_1 a4_2 a4_3).bind fun t172 => (some t172)) = some r := by rw [if_neg (show ¬ (false = true) by decide)] at H; exact H
     clear H
     have H := H1
     clear H1
     replace H := Option.bind_eq_some_iff.mp H
     obtain ⟨t172, A250, H⟩ := H
     replace H : (some t172) = some r := H
     have A25 := Aside0.mk A250
     clear A250
     obtain rfl := Option.some.inj H
     have hnb26 := NB169_170.out; have hnc26 := NB170_169.out; have hcz27_0 : wc.cell? ⟨gb169, 0, none⟩ = some (.string a3_0) := (blk_cell BK169.out 0).trans rfl; have hcz27_1 : wc.cell? ⟨gb169, 1, none⟩ = some (.int .i64 a3_1) := (blk_cell BK169.out 1).trans rfl; have hcz27_2 : wc.cell? ⟨gb169, 2, none⟩ = some (.int .i64 a3_2) := (blk_cell BK169.out 2).trans rfl; have hcz27_3 : wc.cell? ⟨gb169, 3, none⟩ = some (.bool a3_3) := (blk_cell BK169.out 3).trans rfl; have hfz27_0 := blk_frozen BK169.out 0; have hfz27_1 := blk_frozen BK169.out 1; have hfz27_2 := blk_frozen BK169.out 2; have hfz27_3 := blk_frozen BK169.out 3; have hcz28_0 : wc.cell? ⟨gb170, 0, none⟩ = some (.string a4_0) := (blk_cell BK170.out 0).trans rfl; have hcz28_1 : wc.cell? ⟨gb170, 1, none⟩ = some (.int .i64 a4_1) := (blk_cell BK170.out 1).trans rfl; have hcz28_2 : wc.cell? ⟨gb170, 2, none⟩ = some (.int .i64 a4_2) := (blk_cell BK170.out 2).trans rfl; have hcz28_3 : wc.cell? ⟨gb170, 3, none⟩ = some (.bool a4_3) := (blk_cell BK170.out 3).trans rfl; have hfz28_0 := blk_frozen BK170.out 0; have hfz28_1 := blk_frozen BK170.out 1; have hfz28_2 := blk_frozen BK170.out 2; have hfz28_3 := blk_frozen BK170.out 3
     go_wp2_with (first | ((with_reducible refine gate_callee (f := 10) rfl ?_); refine goesL_ (some 29) rfl rfl Tryd.func10 (by kernel_rfl) rfl #[.int .i64 a0, .agg #[.string a3_0, .int .i64 a3_1, .int .i64 a3_2, .bool a3_3], .agg #[.string a4_0, .int .i64 a4_1, .int .i64 a4_2, .bool a4_3]] rfl (by (try simp only [List.map_toArray, List.map_cons, List.map_nil]); first | done | rfl | (simp only [List.length_drop, List.length_take]; rfl)) ?_; (with_reducible refine (order_Compare.calls kj5 a0 a3_0 a3_1 a3_2 a3_3 a4_0 a4_1 a4_2 a4_3 t172 _ A25.out).mono ?_); rintro e w29 ⟨rfl, hb⟩; refine ⟨_, rfl, ?_⟩; have n0_ := Aside0.mk (blk_below (g := gb169) (o := .cells #[.string a3_0, .int .i64 a3_1, .int .i64 a3_2, .bool a3_3] 23 (0, 0)) (by (with_reducible repeat (first | refine blk_drewN ?_ _ | refine blk_drew ?_ | refine blk_alloc ?_ _)); exact BK169.out) hb); have n1_ := Aside0.mk (blk_below (g := gb170) (o := .cells #[.string a4_0, .int .i64 a4_1, .int .i64 a4_2, .bool a4_3] 23 (0, 0)) (by (with_reducible repeat (first | refine blk_drewN ?_ _ | refine blk_drew ?_ | refine blk_alloc ?_ _)); exact BK170.out) hb); have n2_ := Aside0.mk (below_step (by repeat (first | (with_reducible first | exact HB.out | apply below_alloc | apply pw_below_drewN | apply below_drew1 | refine below_set ?_ GE169.out | refine below_set ?_ GE170.out) | exact HB.out)) hb); clear BK169; clear BK170; clear HB; have BK169 := n0_; have BK170 := n1_; have HB := n2_; clear n0_ n1_ n2_; (try clear hb); (try clear hb2); (try clear hk); (try clear hi)))
     go_ret
     exact ⟨by first | rfl | (simp [errW_none, errW_some] <;> rfl) | (simp [*, errW_none, errW_some] <;> rfl), by repeat (first | (with_reducible first | exact HB.out | apply below_alloc | apply pw_below_drewN | apply below_drew1 | refine below_set ?_ GE169.out | refine below_set ?_ GE170.out) | exact HB.out)⟩
end Go.Proofs.YtnlbjefhbeocmaaDoor.QOrderCompares
