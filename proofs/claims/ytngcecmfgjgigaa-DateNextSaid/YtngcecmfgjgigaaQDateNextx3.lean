-- Made by a program of this session.
import Derived.Test.YtngcecmfgjgigaaQDateNextx0
import Derived.Test.YtngcecmfgjgigaaQDateNextx2
namespace Go.Proofs.Ytngcecmfgjgigaa.QDateNext
open Go.RowKit Go.Proofs.YtngcecmfgjgigaaW.PrintWords Go.Proofs.YtngcecmfgjgigaaW.PrintLast Go.Proofs.YtngcecmfgjgigaaW.PrintMore
attribute [local go_sem] max2_int min2_int max_two min_two max_three min_three max_four min_four   -- for this text's walks alone
open Go.Proofs.Ytngcecmfgjgigaa.Ext
set_option linter.unusedVariables false
set_option linter.unusedSimpArgs false

attribute [local go_sem] fie37_3
/-! ### date_Of: function 25 -/
mutual
def date_Of.l0 : Nat → Int → Int → Int → Int → Int → Option (Int × Int × Int × Int × Int × Int × Int × Int)
  | 0, _, _, _, _, _ => none
  | k + 1, x5, x6, x7, x8, x9 => (date_before.f x9).bind fun t111 => (if t111 > x8 then (date_Of.l0 k x5 x6 x7 x8 (wrap64 (x9 - 1))) else ((date_before.f x9).bind fun t112 => (date_Of.l1 k x5 x6 x9 (wrap64 ((wrap64 (x7 * 400)) + x9)) 1 (wrap64 ((wrap64 (x8 - t112)) + 1)) 0 0 0 0 (wrap64 ((wrap64 (x8 - t112)) + 1)))))
def date_Of.l1 : Nat → Int → Int → Int → Int → Int → Int → Int → Int → Int → Int → Int → Option (Int × Int × Int × Int × Int × Int × Int × Int)
  | 0, _, _, _, _, _, _, _, _, _, _, _ => none
  | k + 1, x5, x6, x9, x114000, x114001, x114002, x114003, x114004, x114005, x114006, x114007 => (date_Days.f k x9 x114001).bind fun t114 => (if x114002 > t114 then ((date_Days.f k x9 x114001).bind fun t115 => (date_Of.l1 k x5 x6 x9 x114000 (wrap64 (x114001 + 1)) (wrap64 (x114002 - t115)) x114003 x114004 x114005 x114006 x114007)) else ((date_floor.f (wrap64 (x5 + 4)) 7).bind fun bt116 => (some (x114000, x114001, x114002, wrap64 (Int.tdiv x6 3600), Int.tmod (wrap64 (Int.tdiv x6 60)) 60, Int.tmod x6 60, bt116.2, x114007))))
end
def date_Of.f (k : Nat) (a0 : Int) (a1 : Int) : Option (Int × Int × Int × Int × Int × Int × Int × Int) := (date_split.f a0 a1).bind fun bt107 => ((date_floor.f (wrap64 (bt107.1 + 719528)) 146097).bind fun bt109 => (date_Of.l0 k bt107.1 bt107.2 bt109.1 bt109.2 (mn (wrap64 (Int.tdiv bt109.2 365)) 399)))
theorem date_Of.mono_l : ∀ k, (∀ y0 y1 y2 y3 y4, LeO (date_Of.l0 k y0 y1 y2 y3 y4) (date_Of.l0 (k + 1) y0 y1 y2 y3 y4)) ∧ (∀ y0 y1 y2 y3 y4 y5 y6 y7 y8 y9 y10, LeO (date_Of.l1 k y0 y1 y2 y3 y4 y5 y6 y7 y8 y9 y10) (date_Of.l1 (k + 1) y0 y1 y2 y3 y4 y5 y6 y7 y8 y9 y10))
  | 0 => ⟨fun _ _ _ _ _ r h => by simp [date_Of.l0] at h, fun _ _ _ _ _ _ _ _ _ _ _ r h => by simp [date_Of.l1] at h⟩
  | k + 1 => by
    obtain ⟨ih0, ih1⟩ := date_Of.mono_l k
    refine ⟨?_, ?_⟩
    · intro y0 y1 y2 y3 y4
      unfold date_Of.l0
      repeat' first
      | (with_reducible exact ih0 _ _ _ _ _)
      | (with_reducible exact ih1 _ _ _ _ _ _ _ _ _ _ _)
      | (with_reducible exact date_Days.mono _ _ _)
      | (with_reducible exact LeO.refl _)
      | (with_reducible exact LeO.none _)
      | (with_reducible refine LeO.ite ?_ ?_)
      | (with_reducible refine LeO.bind ?_ (fun _ => ?_))
      | exact ih0 _ _ _ _ _
      | exact ih1 _ _ _ _ _ _ _ _ _ _ _
      | exact date_Days.mono _ _ _
      | exact LeO.none _
      | refine LeO.ite ?_ ?_
      | refine LeO.bind ?_ (fun _ => ?_)
    · intro y0 y1 y2 y3 y4 y5 y6 y7 y8 y9 y10
      unfold date_Of.l1
      repeat' first
      | (with_reducible exact ih0 _ _ _ _ _)
      | (with_reducible exact ih1 _ _ _ _ _ _ _ _ _ _ _)
      | (with_reducible exact date_Days.mono _ _ _)
      | (with_reducible exact LeO.refl _)
      | (with_reducible exact LeO.none _)
      | (with_reducible refine LeO.ite ?_ ?_)
      | (with_reducible refine LeO.bind ?_ (fun _ => ?_))
      | exact ih0 _ _ _ _ _
      | exact ih1 _ _ _ _ _ _ _ _ _ _ _
      | exact date_Days.mono _ _ _
      | exact LeO.none _
      | refine LeO.ite ?_ ?_
      | refine LeO.bind ?_ (fun _ => ?_)
theorem date_Of.mono : ∀ a0 a1 k, LeO (date_Of.f k a0 a1) (date_Of.f (k + 1) a0 a1) := by
  intro a0 a1 k
  obtain ⟨ih0, ih1⟩ := date_Of.mono_l k
  unfold date_Of.f
  repeat' first
      | (with_reducible exact ih0 _ _ _ _ _)
      | (with_reducible exact ih1 _ _ _ _ _ _ _ _ _ _ _)
      | (with_reducible exact date_Days.mono _ _ _)
      | (with_reducible exact LeO.refl _)
      | (with_reducible exact LeO.none _)
      | (with_reducible refine LeO.ite ?_ ?_)
      | (with_reducible refine LeO.bind ?_ (fun _ => ?_))
      | exact ih0 _ _ _ _ _
      | exact ih1 _ _ _ _ _ _ _ _ _ _ _
      | exact date_Days.mono _ _ _
      | exact LeO.none _
      | refine LeO.ite ?_ ?_
      | refine LeO.bind ?_ (fun _ => ?_)
def date_Of.T9 : Bool × List (List Nat × List Nat) := (true, [([], []), ([0], [0]), ([], []), ([], []), ([3], [3]), ([2, 4], [2, 4]), ([1, 5], [1, 5]), ([0, 1, 2, 3, 4, 5, 6], []), ([7, 6, 5, 0, 1, 2, 3, 4, 5, 6], [6, 7])])
def date_Of.B9 : List Nat := [0, 1, 0, 0, 8, 28, 63, 127, 255]
theorem date_Of.tab9 : rtab .any (opsOf Try.f25 9) = date_Of.T9 := by kernel_rfl
theorem date_Of.bits9 : waitsOk date_Of.T9.2 date_Of.B9 = true := by kernel_rfl
set_option maxHeartbeats 8000000 in
set_option maxRecDepth 100000 in
theorem date_Of.calls (k : Nat) (a0 : Int) (a1 : Int) (r1 : Int) (r2 : Int) (r3 : Int) (r4 : Int) (r5 : Int) (r6 : Int) (r7 : Int) (r8 : Int) (w : World) (h : date_Of.f k a0 a1 = some (r1, r2, r3, r4, r5, r6, r7, r8)) :
    Calls Try.prog 25 #[.int .i64 a0, .int .i64 a1] w fun e w' => e = .returned (.agg #[.int .i64 r1, .int .i64 r2, .int .i64 r3, .int .i64 r4, .int .i64 r5, .int .i64 r6, .int .i64 r7, .int .i64 r8]) ∧ Below w.heap.size w w' := by
  have hu37 := Try.underlying37
  have HB := Aside0.mk (Below.refl w.heap.size w)
  have H : ((date_split.f a0 a1).bind fun bt107 => ((date_floor.f (wrap64 (bt107.1 + 719528)) 146097).bind fun bt109 => (date_Of.l0 k bt107.1 bt107.2 bt109.1 bt109.2 (mn (wrap64 (Int.tdiv bt109.2 365)) 399)))) = some (r1, r2, r3, r4, r5, r6, r7, r8) := h
  clear h
  replace H := Option.bind_eq_some_iff.mp H
  obtain ⟨⟨t107, t108⟩, A30, H⟩ := H
  replace H : ((date_floor.f (wrap64 (t107 + 719528)) 146097).bind fun bt109 => (date_Of.l0 k t107 t108 bt109.1 bt109.2 (mn (wrap64 (Int.tdiv bt109.2 365)) 399))) = some (r1, r2, r3, r4, r5, r6, r7, r8) := H
  have A3 := Aside0.mk A30
  clear A30
  replace H := Option.bind_eq_some_iff.mp H
  obtain ⟨⟨t109, t110⟩, A40, H⟩ := H
  replace H : (date_Of.l0 k t107 t108 t109 t110 (mn (wrap64 (Int.tdiv t110 365)) 399)) = some (r1, r2, r3, r4, r5, r6, r7, r8) := H
  have A4 := Aside0.mk A40
  clear A40
  obtain ⟨ji5, hji5⟩ : ∃ j_ : Int, (mn (wrap64 (Int.tdiv t110 365)) 399) = j_ := ⟨_, rfl⟩
  replace H : (date_Of.l0 k t107 t108 t109 t110 ji5) = some (r1, r2, r3, r4, r5, r6, r7, r8) := by first | (rw [hji5] at H; exact H) | (simp only [hji5] at H ⊢; exact H)
  (try rw [hji5] at A3)
  (try rw [hji5] at A4)
  (try (have hji5h : ji5 ≤ 399 := by (rw [← hji5]; unfold mn; (repeat' split) <;> omega)))
  (try (have hji5g : ji5 ≤ 64 := by omega))
  have hji5_ : (if 399 < (wrap64 (Int.tdiv t110 365)) then 399 else (wrap64 (Int.tdiv t110 365))) = ji5 := hji5
  have H' := Aside0.mk H
  clear H
  go_enter Try.func25, Try.ntmps25
  go_wp2_with (first | ((with_reducible refine gate_dst (N := 4) rfl ?_); refine box_event ?hg (N := 4) ?hd (cs := #[.int .i64 0, .int .i64 0, .int .i64 0, .int .i64 0, .int .i64 0, .int .i64 0, .int .i64 0, .int .i64 0]) (t := 37) ?hr ?_; (case hd => rfl); (case hg => rfl); (case hr => first | (go_simp; done) | (go_simp; rfl)); intro gb106 hg w6 hbox hb; have n0_ := Aside0.mk (below_step (by repeat (first | (with_reducible first | exact HB.out | apply below_alloc | apply pw_below_drewN | apply below_drew1) | exact HB.out)) hb); have n1_ := Aside0.mk (hbox); have n2_ := Aside0.mk ((by rw [hg]; exact (below_size (by repeat (first | (with_reducible first | exact HB.out | apply below_alloc | apply pw_below_drewN | apply below_drew1) | exact HB.out))) : w.heap.size ≤ gb106)); have n3_ := Aside0.mk ((by rw [hg]; exact (below_size (by repeat (first | (with_reducible first | exact HB.out | apply below_alloc | apply pw_below_drewN | apply below_drew1) | exact HB.out))) : w.heap.size ≤ gb106)); clear HB; have HB := n0_; have BK106 := n1_; have GW106 := n2_; have GE106 := n3_; clear n0_ n1_ n2_ n3_; clear hb hbox hg) | ((with_reducible refine gate_callee (f := 35) rfl ?_); refine goesL_ (some 16) rfl rfl Try.func35 (by kernel_rfl) rfl #[.int .i64 a0, .int .i64 a1] rfl (by (try simp only [List.map_toArray, List.map_cons, List.map_nil]); first | done | rfl | (simp only [List.length_drop, List.length_take]; rfl)) ?_; (with_reducible refine (date_split.calls a0 a1 t107 t108 _ A3.out).mono ?_); rintro e w7 ⟨rfl, hb⟩; refine ⟨_, rfl, ?_⟩; have n0_ := Aside0.mk (blk_below (g := gb106) (o := .cells #[.int .i64 0, .int .i64 0, .int .i64 0, .int .i64 0, .int .i64 0, .int .i64 0, .int .i64 0, .int .i64 0] 37 (0, 0)) (by (with_reducible repeat (first | refine blk_drewN ?_ _ | refine blk_drew ?_ | refine blk_alloc ?_ _)); exact BK106.out) hb); have n1_ := Aside0.mk (below_step (by repeat (first | (with_reducible first | exact HB.out | apply below_alloc | apply pw_below_drewN | apply below_drew1 | refine below_set ?_ GE106.out) | exact HB.out)) hb); clear BK106; clear HB; have BK106 := n0_; have HB := n1_; clear n0_ n1_; (try clear hb); (try clear hb2); (try clear hk); (try clear hi)) | ((with_reducible refine gate_callee (f := 36) rfl ?_); refine goesL_ (some 22) rfl rfl Try.func36 (by kernel_rfl) rfl #[.int .i64 (wrap64 (t107 + 719528)), .int .i64 146097] rfl (by (try simp only [List.map_toArray, List.map_cons, List.map_nil]); first | done | rfl | (simp only [List.length_drop, List.length_take]; rfl)) ?_; (with_reducible refine (date_floor.calls (wrap64 (t107 + 719528)) 146097 t109 t110 _ A4.out).mono ?_); rintro e w' ⟨rfl, ⟨nd, rfl⟩⟩; refine ⟨_, rfl, ?_⟩))
  go_loopg [9] k (fun kq v9 w' => ∃ (x9_1 : Int), v9 = .int .i64 x9_1 ∧ Aside0 (date_Of.l0 kq t107 t108 t109 t110 x9_1 = some (r1, r2, r3, r4, r5, r6, r7, r8)) ∧ Aside0 (kq ≤ k) ∧ Aside0 (w'.heap[gb106]? = some (.cells #[.int .i64 0, .int .i64 0, .int .i64 0, .int .i64 0, .int .i64 0, .int .i64 0, .int .i64 0, .int .i64 0] 37 (0, 0))) ∧ Aside0 (Below w.heap.size w w'))
  case atStart => exact ⟨(ji5), (by first | rfl | (simp; done) | (simp only [← hji5] <;> (first | rfl | simp)) | (simp [*]; done)), H', ⟨Nat.le_refl _⟩, ⟨by (with_reducible repeat (first | refine blk_drewN ?_ _ | refine blk_drew ?_ | refine blk_alloc ?_ _)); exact BK106.out⟩, ⟨by repeat (first | (with_reducible first | exact HB.out | apply below_alloc | apply pw_below_drewN | apply below_drew1 | refine below_set ?_ GE106.out) | exact HB.out)⟩⟩
  case round =>
    clear H'
    try clear c2
    try clear p2
    try clear c3
    try clear p6
    obtain ⟨x9_1, rfl, HA, HK1, BK106, HB⟩ := hrel
    cases gk with
    | zero => exact absurd HA.out (by simp [date_Of.l0])
    | succ k1 =>
      have H := HA.out
      clear HA
      simp only [date_Of.l0] at H
      replace H := Option.bind_eq_some_iff.mp H
      obtain ⟨t111, A80, H⟩ := H
      replace H : (if t111 > t110 then (date_Of.l0 k1 t107 t108 t109 t110 (wrap64 (x9_1 - 1))) else ((date_before.f x9_1).bind fun t112 => (date_Of.l1 k1 t107 t108 x9_1 (wrap64 ((wrap64 (t109 * 400)) + x9_1)) 1 (wrap64 ((wrap64 (t110 - t112)) + 1)) 0 0 0 0 (wrap64 ((wrap64 (t110 - t112)) + 1))))) = some (r1, r2, r3, r4, r5, r6, r7, r8) := H
      have A8 := Aside0.mk A80
      clear A80
      by_cases c9 : t111 > t110
      · rw [if_pos c9] at H
        have c9b0 : decide (t110 < t111) = true := decide_eq_true c9
        clear c9
        have H' := Aside0.mk H
        clear H
        go_wp2_with (first | ((with_reducible refine gate_callee (f := 37) rfl ?_); refine goesL_ (some 29) rfl rfl Try.func37 (by kernel_rfl) rfl #[.int .i64 x9_1] rfl (by (try simp only [List.map_toArray, List.map_cons, List.map_nil]); first | done | rfl | (simp only [List.length_drop, List.length_take]; rfl)) ?_; (with_reducible refine (date_before.calls x9_1 t111 _ A8.out).mono ?_); rintro e w' ⟨rfl, ⟨nd, rfl⟩⟩; refine ⟨_, rfl, ?_⟩))
        go_roundg k1
        case measure => have := HK1.out; omega
        case rel => exact ⟨(wrap64 (x9_1 - 1)), (by first | rfl | (simp; done) | (simp [*]; done)), H', ⟨by have := HK1.out; omega⟩, ⟨by (with_reducible repeat (first | refine blk_drewN ?_ _ | refine blk_drew ?_ | refine blk_alloc ?_ _)); exact BK106.out⟩, ⟨by repeat (first | (with_reducible first | exact HB.out | apply below_alloc | apply pw_below_drewN | apply below_drew1 | refine below_set ?_ GE106.out) | exact HB.out)⟩⟩
      · rw [if_neg c9] at H
        have c9b0 : decide (t110 < t111) = false := decide_eq_false c9
        clear c9
        replace H := Option.bind_eq_some_iff.mp H
        obtain ⟨t112, A100, H⟩ := H
        replace H : (date_Of.l1 k1 t107 t108 x9_1 (wrap64 ((wrap64 (t109 * 400)) + x9_1)) 1 (wrap64 ((wrap64 (t110 - t112)) + 1)) 0 0 0 0 (wrap64 ((wrap64 (t110 - t112)) + 1))) = some (r1, r2, r3, r4, r5, r6, r7, r8) := H
        have A10 := Aside0.mk A100
        clear A100
        have H' := Aside0.mk H
        clear H
        go_wp2_with (first | ((with_reducible refine gate_callee (f := 37) rfl ?_); refine goesL_ (some 29) rfl rfl Try.func37 (by kernel_rfl) rfl #[.int .i64 x9_1] rfl (by (try simp only [List.map_toArray, List.map_cons, List.map_nil]); first | done | rfl | (simp only [List.length_drop, List.length_take]; rfl)) ?_; (with_reducible refine (date_before.calls x9_1 t111 _ A8.out).mono ?_); rintro e w' ⟨rfl, ⟨nd, rfl⟩⟩; refine ⟨_, rfl, ?_⟩; (try (rw [drewN_self wr]; generalize hq_ : World.drewN wr _ = wr; have n0_ : Aside0 (wr.heap[gb106]? = some (.cells #[.int .i64 0, .int .i64 0, .int .i64 0, .int .i64 0, .int .i64 0, .int .i64 0, .int .i64 0, .int .i64 0] 37 (0, 0))) := ⟨by rw [← hq_]; exact (by (with_reducible repeat (first | refine blk_drewN ?_ _ | refine blk_drew ?_ | refine blk_alloc ?_ _)); exact BK106.out)⟩; have n1_ : Aside0 (Below w.heap.size w wr) := ⟨by rw [← hq_]; exact (by repeat (first | (with_reducible first | exact HB.out | apply below_alloc | apply pw_below_drewN | apply below_drew1 | refine below_set ?_ GE106.out) | exact HB.out))⟩; clear BK106 HB hq_; have BK106 := n0_; have HB := n1_; clear n0_ n1_))) | ((with_reducible refine gate_callee (f := 37) rfl ?_); refine goesL_ (some 40) rfl rfl Try.func37 (by kernel_rfl) rfl #[.int .i64 x9_1] rfl (by (try simp only [List.map_toArray, List.map_cons, List.map_nil]); first | done | rfl | (simp only [List.length_drop, List.length_take]; rfl)) ?_; (with_reducible refine (date_before.calls x9_1 t112 _ A10.out).mono ?_); rintro e w' ⟨rfl, ⟨nd, rfl⟩⟩; refine ⟨_, rfl, ?_⟩; (try (rw [drewN_self wr]; generalize hq_ : World.drewN wr _ = wr; have n0_ : Aside0 (wr.heap[gb106]? = some (.cells #[.int .i64 0, .int .i64 0, .int .i64 0, .int .i64 0, .int .i64 0, .int .i64 0, .int .i64 0, .int .i64 0] 37 (0, 0))) := ⟨by rw [← hq_]; exact (by (with_reducible repeat (first | refine blk_drewN ?_ _ | refine blk_drew ?_ | refine blk_alloc ?_ _)); exact BK106.out)⟩; have n1_ : Aside0 (Below w.heap.size w wr) := ⟨by rw [← hq_]; exact (by repeat (first | (with_reducible first | exact HB.out | apply below_alloc | apply pw_below_drewN | apply below_drew1 | refine below_set ?_ GE106.out) | exact HB.out))⟩; clear BK106 HB hq_; have BK106 := n0_; have HB := n1_; clear n0_ n1_))) | ((with_reducible refine gate_dst (N := 10) rfl ?_); refine box_event ?hg (N := 10) ?hd (cs := #[.int .i64 0, .int .i64 0, .int .i64 0, .int .i64 0, .int .i64 0, .int .i64 0, .int .i64 0, .int .i64 0]) (t := 37) ?hr ?_; (case hd => rfl); (case hg => rfl); (case hr => first | (go_simp; done) | (go_simp; rfl)); intro gb113 hg w11 hbox hb; have n0_ := Aside0.mk (blk_below (g := gb106) (o := .cells #[.int .i64 0, .int .i64 0, .int .i64 0, .int .i64 0, .int .i64 0, .int .i64 0, .int .i64 0, .int .i64 0] 37 (0, 0)) (by (with_reducible repeat (first | refine blk_drewN ?_ _ | refine blk_drew ?_ | refine blk_alloc ?_ _)); exact BK106.out) hb); have n1_ := Aside0.mk (below_step (by repeat (first | (with_reducible first | exact HB.out | apply below_alloc | apply pw_below_drewN | apply below_drew1 | refine below_set ?_ GE106.out) | exact HB.out)) hb); have n2_ := Aside0.mk (hbox); have n3_ := Aside0.mk ((by rw [hg]; exact (below_size (by repeat (first | (with_reducible first | exact HB.out | apply below_alloc | apply pw_below_drewN | apply below_drew1 | refine below_set ?_ GE106.out) | exact HB.out))) : w.heap.size ≤ gb113)); have n4_ := Aside0.mk ((by rw [hg]; exact (below_size (by repeat (first | (with_reducible first | exact HB.out | apply below_alloc | apply pw_below_drewN | apply below_drew1 | refine below_set ?_ GE106.out) | exact HB.out))) : w.heap.size ≤ gb113)); have n5_ := Aside0.mk ((by rw [hg]; exact Nat.ne_of_lt (blk_lt (g := gb106) (o := .cells #[.int .i64 0, .int .i64 0, .int .i64 0, .int .i64 0, .int .i64 0, .int .i64 0, .int .i64 0, .int .i64 0] 37 (0, 0)) (by (with_reducible repeat (first | refine blk_drewN ?_ _ | refine blk_drew ?_ | refine blk_alloc ?_ _)); exact BK106.out)) : gb106 ≠ gb113)); have n6_ := Aside0.mk ((by rw [hg]; exact Nat.ne_of_gt (blk_lt (g := gb106) (o := .cells #[.int .i64 0, .int .i64 0, .int .i64 0, .int .i64 0, .int .i64 0, .int .i64 0, .int .i64 0, .int .i64 0] 37 (0, 0)) (by (with_reducible repeat (first | refine blk_drewN ?_ _ | refine blk_drew ?_ | refine blk_alloc ?_ _)); exact BK106.out)) : gb113 ≠ gb106)); clear BK106; clear HB; have BK106 := n0_; have HB := n1_; have BK113 := n2_; have GW113 := n3_; have GE113 := n4_; have NB106_113 := n5_; have NB113_106 := n6_; clear n0_ n1_ n2_ n3_ n4_ n5_ n6_; clear hb hbox hg; have hnb12 := NB113_106.out; have hnc12 := NB106_113.out; have hcz13_0 : w11.cell? ⟨gb113, 0, none⟩ = some (.int .i64 0) := (blk_cell BK113.out 0).trans rfl; have hcz13_1 : w11.cell? ⟨gb113, 1, none⟩ = some (.int .i64 0) := (blk_cell BK113.out 1).trans rfl; have hcz13_2 : w11.cell? ⟨gb113, 2, none⟩ = some (.int .i64 0) := (blk_cell BK113.out 2).trans rfl; have hcz13_3 : w11.cell? ⟨gb113, 3, none⟩ = some (.int .i64 0) := (blk_cell BK113.out 3).trans rfl; have hcz13_4 : w11.cell? ⟨gb113, 4, none⟩ = some (.int .i64 0) := (blk_cell BK113.out 4).trans rfl; have hcz13_5 : w11.cell? ⟨gb113, 5, none⟩ = some (.int .i64 0) := (blk_cell BK113.out 5).trans rfl; have hcz13_6 : w11.cell? ⟨gb113, 6, none⟩ = some (.int .i64 0) := (blk_cell BK113.out 6).trans rfl; have hcz13_7 : w11.cell? ⟨gb113, 7, none⟩ = some (.int .i64 0) := (blk_cell BK113.out 7).trans rfl; have hfz13_0 := blk_frozen BK113.out 0; have hfz13_1 := blk_frozen BK113.out 1; have hfz13_2 := blk_frozen BK113.out 2; have hfz13_3 := blk_frozen BK113.out 3; have hfz13_4 := blk_frozen BK113.out 4; have hfz13_5 := blk_frozen BK113.out 5; have hfz13_6 := blk_frozen BK113.out 6; have hfz13_7 := blk_frozen BK113.out 7))
        go_loopg [] k1 (fun kq w' => ∃ (x114001_2 : Int) (x114002_2 : Int), Aside0 (date_Of.l1 kq t107 t108 x9_1 (wrap64 ((wrap64 (t109 * 400)) + x9_1)) x114001_2 x114002_2 0 0 0 0 (wrap64 ((wrap64 (t110 - t112)) + 1)) = some (r1, r2, r3, r4, r5, r6, r7, r8)) ∧ Aside0 (kq ≤ k1) ∧ Aside0 (w'.heap[gb106]? = some (.cells #[.int .i64 0, .int .i64 0, .int .i64 0, .int .i64 0, .int .i64 0, .int .i64 0, .int .i64 0, .int .i64 0] 37 (0, 0))) ∧ Aside0 (w'.heap[gb113]? = some (.cells #[.int .i64 (wrap64 ((wrap64 (t109 * 400)) + x9_1)), .int .i64 x114001_2, .int .i64 x114002_2, .int .i64 0, .int .i64 0, .int .i64 0, .int .i64 0, .int .i64 (wrap64 ((wrap64 (t110 - t112)) + 1))] 37 (0, 0))) ∧ Aside0 (Below w.heap.size w w'))
        case atStart => exact ⟨(1), (wrap64 ((wrap64 (t110 - t112)) + 1)), H', ⟨Nat.le_refl _⟩, ⟨by (with_reducible repeat (first | refine blk_drewN ?_ _ | refine blk_drew ?_ | refine blk_alloc ?_ _)); refine blk_far ?_ NB106_113.out _; (with_reducible repeat (first | refine blk_drewN ?_ _ | refine blk_drew ?_ | refine blk_alloc ?_ _)); refine blk_far ?_ NB106_113.out _; (with_reducible repeat (first | refine blk_drewN ?_ _ | refine blk_drew ?_ | refine blk_alloc ?_ _)); refine blk_far ?_ NB106_113.out _; (with_reducible repeat (first | refine blk_drewN ?_ _ | refine blk_drew ?_ | refine blk_alloc ?_ _)); refine blk_far ?_ NB106_113.out _; (with_reducible repeat (first | refine blk_drewN ?_ _ | refine blk_drew ?_ | refine blk_alloc ?_ _)); refine blk_far ?_ NB106_113.out _; (with_reducible repeat (first | refine blk_drewN ?_ _ | refine blk_drew ?_ | refine blk_alloc ?_ _)); refine blk_far ?_ NB106_113.out _; (with_reducible repeat (first | refine blk_drewN ?_ _ | refine blk_drew ?_ | refine blk_alloc ?_ _)); refine blk_far ?_ NB106_113.out _; (with_reducible repeat (first | refine blk_drewN ?_ _ | refine blk_drew ?_ | refine blk_alloc ?_ _)); refine blk_far ?_ NB106_113.out _; (with_reducible repeat (first | refine blk_drewN ?_ _ | refine blk_drew ?_ | refine blk_alloc ?_ _)); refine blk_far ?_ NB106_113.out _; (with_reducible repeat (first | refine blk_drewN ?_ _ | refine blk_drew ?_ | refine blk_alloc ?_ _)); exact BK106.out⟩, ⟨by (with_reducible repeat (first | refine blk_drewN ?_ _ | refine blk_drew ?_ | refine blk_alloc ?_ _)); refine blk_put (cs := #[.int .i64 (wrap64 ((wrap64 (t109 * 400)) + x9_1)), .int .i64 1, .int .i64 0, .int .i64 0, .int .i64 0, .int .i64 0, .int .i64 0, .int .i64 (wrap64 ((wrap64 (t110 - t112)) + 1))]) ?_ 2 _ (by first | rfl | (simp; done)); (with_reducible repeat (first | refine blk_drewN ?_ _ | refine blk_drew ?_ | refine blk_alloc ?_ _)); refine blk_put (cs := #[.int .i64 (wrap64 ((wrap64 (t109 * 400)) + x9_1)), .int .i64 1, .int .i64 0, .int .i64 0, .int .i64 0, .int .i64 0, .int .i64 0, .int .i64 0]) ?_ 7 _ (by first | rfl | (simp; done)); (with_reducible repeat (first | refine blk_drewN ?_ _ | refine blk_drew ?_ | refine blk_alloc ?_ _)); refine blk_put (cs := #[.int .i64 (wrap64 ((wrap64 (t109 * 400)) + x9_1)), .int .i64 1, .int .i64 0, .int .i64 0, .int .i64 0, .int .i64 0, .int .i64 0, .int .i64 0]) ?_ 6 _ (by first | rfl | (simp; done)); (with_reducible repeat (first | refine blk_drewN ?_ _ | refine blk_drew ?_ | refine blk_alloc ?_ _)); refine blk_put (cs := #[.int .i64 (wrap64 ((wrap64 (t109 * 400)) + x9_1)), .int .i64 1, .int .i64 0, .int .i64 0, .int .i64 0, .int .i64 0, .int .i64 0, .int .i64 0]) ?_ 5 _ (by first | rfl | (simp; done)); (with_reducible repeat (first | refine blk_drewN ?_ _ | refine blk_drew ?_ | refine blk_alloc ?_ _)); refine blk_put (cs := #[.int .i64 (wrap64 ((wrap64 (t109 * 400)) + x9_1)), .int .i64 1, .int .i64 0, .int .i64 0, .int .i64 0, .int .i64 0, .int .i64 0, .int .i64 0]) ?_ 4 _ (by first | rfl | (simp; done)); (with_reducible repeat (first | refine blk_drewN ?_ _ | refine blk_drew ?_ | refine blk_alloc ?_ _)); refine blk_put (cs := #[.int .i64 (wrap64 ((wrap64 (t109 * 400)) + x9_1)), .int .i64 1, .int .i64 0, .int .i64 0, .int .i64 0, .int .i64 0, .int .i64 0, .int .i64 0]) ?_ 3 _ (by first | rfl | (simp; done)); (with_reducible repeat (first | refine blk_drewN ?_ _ | refine blk_drew ?_ | refine blk_alloc ?_ _)); refine blk_put (cs := #[.int .i64 (wrap64 ((wrap64 (t109 * 400)) + x9_1)), .int .i64 1, .int .i64 0, .int .i64 0, .int .i64 0, .int .i64 0, .int .i64 0, .int .i64 0]) ?_ 2 _ (by first | rfl | (simp; done)); (with_reducible repeat (first | refine blk_drewN ?_ _ | refine blk_drew ?_ | refine blk_alloc ?_ _)); refine blk_put (cs := #[.int .i64 (wrap64 ((wrap64 (t109 * 400)) + x9_1)), .int .i64 0, .int .i64 0, .int .i64 0, .int .i64 0, .int .i64 0, .int .i64 0, .int .i64 0]) ?_ 1 _ (by first | rfl | (simp; done)); (with_reducible repeat (first | refine blk_drewN ?_ _ | refine blk_drew ?_ | refine blk_alloc ?_ _)); refine blk_put (cs := #[.int .i64 0, .int .i64 0, .int .i64 0, .int .i64 0, .int .i64 0, .int .i64 0, .int .i64 0, .int .i64 0]) ?_ 0 _ (by first | rfl | (simp; done)); (with_reducible repeat (first | refine blk_drewN ?_ _ | refine blk_drew ?_ | refine blk_alloc ?_ _)); exact BK113.out⟩, ⟨by repeat (first | (with_reducible first | exact HB.out | apply below_alloc | apply pw_below_drewN | apply below_drew1 | refine below_set ?_ GE106.out | refine below_set ?_ GE113.out) | exact HB.out)⟩⟩
        case round =>
          clear H'
          try clear c1
          try clear c2
          try clear p2
          try clear c3
          try clear p6
          try clear c9
          try clear c9b0
          try clear c12
          try clear hcz13_0
          try clear hcz13_1
          try clear hcz13_2
          try clear hcz13_3
          try clear hcz13_4
          try clear hcz13_5
          try clear hcz13_6
          try clear hcz13_7
          try clear hfz13_0
          try clear hfz13_1
          try clear hfz13_2
          try clear hfz13_3
          try clear hfz13_4
          try clear hfz13_5
          try clear hfz13_6
          try clear hfz13_7
          try clear p2
          try clear p6
          obtain ⟨x114001_2, x114002_2, HA, HK2, BK106, BK113, HB⟩ := hrel
          cases gk with
          | zero => exact absurd HA.out (by simp [date_Of.l1])
          | succ k2 =>
            have H := HA.out
            clear HA
            simp only [date_Of.l1] at H
            replace H := Option.bind_eq_some_iff.mp H
            obtain ⟨t114, A140, H⟩ := H
            replace H : (if x114002_2 > t114 then ((date_Days.f k2 x9_1 x114001_2).bind fun t115 => (date_Of.l1 k2 t107 t108 x9_1 (wrap64 ((wrap64 (t109 * 400)) + x9_1)) (wrap64 (x114001_2 + 1)) (wrap64 (x114002_2 - t115)) 0 0 0 0 (wrap64 ((wrap64 (t110 - t112)) + 1)))) else ((date_floor.f (wrap64 (t107 + 4)) 7).bind fun bt116 => (some ((wrap64 ((wrap64 (t109 * 400)) + x9_1)), x114001_2, x114002_2, wrap64 (Int.tdiv t108 3600), Int.tmod (wrap64 (Int.tdiv t108 60)) 60, Int.tmod t108 60, bt116.2, (wrap64 ((wrap64 (t110 - t112)) + 1)))))) = some (r1, r2, r3, r4, r5, r6, r7, r8) := H
            have A14 := Aside0.mk A140
            clear A140
            by_cases c15 : x114002_2 > t114
            · rw [if_pos c15] at H
              have c15b0 : decide (t114 < x114002_2) = true := decide_eq_true c15
              clear c15
              replace H := Option.bind_eq_some_iff.mp H
              obtain ⟨t115, A160, H⟩ := H
              replace H : (date_Of.l1 k2 t107 t108 x9_1 (wrap64 ((wrap64 (t109 * 400)) + x9_1)) (wrap64 (x114001_2 + 1)) (wrap64 (x114002_2 - t115)) 0 0 0 0 (wrap64 ((wrap64 (t110 - t112)) + 1))) = some (r1, r2, r3, r4, r5, r6, r7, r8) := H
              have A16 := Aside0.mk A160
              clear A160
              have H' := Aside0.mk H
              clear H
              try go_wp2
              have n0_ := Aside0.mk (blk_drew BK106.out)
              have n1_ := Aside0.mk (blk_drew BK113.out)
              have n2_ := Aside0.mk (below_drew1 HB.out)
              clear BK106
              clear BK113
              clear HB
              have BK106 := n0_
              have BK113 := n1_
              have HB := n2_
              clear n0_ n1_ n2_
              refine start_ (n := 7) (S := fun w' => w'.cell? ⟨gb113, 0, none⟩ = some (.int .i64 (wrap64 ((wrap64 (t109 * 400)) + x9_1))) ∧ w'.cell? ⟨gb113, 1, none⟩ = some (.int .i64 x114001_2) ∧ w'.cell? ⟨gb113, 2, none⟩ = some (.int .i64 x114002_2) ∧ w'.cell? ⟨gb113, 3, none⟩ = some (.int .i64 0) ∧ w'.cell? ⟨gb113, 4, none⟩ = some (.int .i64 0) ∧ w'.cell? ⟨gb113, 5, none⟩ = some (.int .i64 0) ∧ w'.cell? ⟨gb113, 6, none⟩ = some (.int .i64 0) ∧ w'.cell? ⟨gb113, 7, none⟩ = some (.int .i64 (wrap64 ((wrap64 (t110 - t112)) + 1)))) (ds := []) #[false, false, false, false, false, false, false] (by kernel_rfl) rfl rfl ⟨(blk_cell BK113.out 0).trans rfl, (blk_cell BK113.out 1).trans rfl, (blk_cell BK113.out 2).trans rfl, (blk_cell BK113.out 3).trans rfl, (blk_cell BK113.out 4).trans rfl, (blk_cell BK113.out 5).trans rfl, (blk_cell BK113.out 6).trans rfl, (blk_cell BK113.out 7).trans rfl⟩ (fun hHeld => ?_)
              generalize wr.drew = w17 at BK106 BK113 HB hHeld ⊢
              refine pure_ (i := 0) (N := some 47) (v := ?_) (a' := ?_) #[true, false, false, false, false, false, false] rfl rfl (by kernel_rfl) (fun _ _ _ h => h) (Or.inl ⟨by rfl, ?_⟩) ?_ ?_
              rotate_left
              · intro w'
                go_simp
                with_reducible rfl
              rotate_left
              · simp only [Act.put, List.setIfInBounds_toArray, List.set_cons_zero, List.set_cons_succ, i64_w, i32_w]
                rfl
              refine pure_ (i := 2) (N := some 49) (v := ?_) (a' := ?_) #[true, false, true, false, false, false, false] rfl rfl (by kernel_rfl) (fun _ _ _ h => h) (Or.inl ⟨by rfl, ?_⟩) ?_ ?_
              rotate_left
              · intro w'
                go_simp
                with_reducible rfl
              rotate_left
              · simp only [Act.put, List.setIfInBounds_toArray, List.set_cons_zero, List.set_cons_succ, i64_w, i32_w]
                rfl
              refine pure_ (i := 3) (N := some 50) (v := ?_) (a' := ?_) #[true, false, true, true, false, false, false] rfl rfl (by kernel_rfl) (fun _ _ _ h => h) (Or.inl ⟨by rfl, ?_⟩) ?_ ?_
              rotate_left
              · intro w'
                go_simp
                with_reducible rfl
              rotate_left
              · simp only [Act.put, List.setIfInBounds_toArray, List.set_cons_zero, List.set_cons_succ, i64_w, i32_w]
                rfl
              refine take_ (i := 1) (N := some 48) (v := ?_) (a' := ?_) #[true, true, true, true, false, false, false] rfl rfl (by kernel_rfl) (fun _ _ _ h => h) (Or.inl ⟨by rfl, ?_⟩) hHeld ?_ ?_
              rotate_left
              · rintro w' ⟨s0, s1, s2, s3, s4, s5, s6, s7⟩
                go_simp
                with_reducible rfl
              rotate_left
              · simp only [Act.put, List.setIfInBounds_toArray, List.set_cons_zero, List.set_cons_succ, i64_w, i32_w]
                rfl
              refine take_ (i := 4) (N := some 51) (v := ?_) (a' := ?_) #[true, true, true, true, true, false, false] rfl rfl (by kernel_rfl) (fun _ _ _ h => h) (Or.inl ⟨by rfl, ?_⟩) hHeld ?_ ?_
              rotate_left
              · rintro w' ⟨s0, s1, s2, s3, s4, s5, s6, s7⟩
                go_simp
                with_reducible rfl
              rotate_left
              · simp only [Act.put, List.setIfInBounds_toArray, List.set_cons_zero, List.set_cons_succ, i64_w, i32_w]
                rfl
              refine one_ (i := 5) (N := some 52) #[true, true, true, true, true, true, false] rfl rfl (by kernel_rfl) (by decide) (fun K hK => ?_)
              refine goes_ Try.func23 (by kernel_rfl) rfl #[.int .i64 x9_1, .int .i64 x114001_2] (by rfl) rfl rfl (by (try simp only [List.map_toArray, List.map_cons, List.map_nil]); first | done | rfl | (simp only [List.length_drop, List.length_take]; rfl)) ?_
              with_reducible refine (date_Days.calls k2 x9_1 x114001_2 t114 _ A14.out).mono ?_
              rintro e w' ⟨rfl, ⟨nd, rfl⟩⟩
              refine ⟨_, rfl, ?_⟩
              refine hK.out _ _ ⟨(blk_cell BK113.out 0).trans rfl, (blk_cell BK113.out 1).trans rfl, (blk_cell BK113.out 2).trans rfl, (blk_cell BK113.out 3).trans rfl, (blk_cell BK113.out 4).trans rfl, (blk_cell BK113.out 5).trans rfl, (blk_cell BK113.out 6).trans rfl, (blk_cell BK113.out 7).trans rfl⟩ (fun hHeld => ?_)
              clear hK K
              refine norm_ (a' := ?_) ?_ ?_
              rotate_left
              · show Act.put _ (some 52) _ = _
                simp only [Act.put, List.setIfInBounds_toArray, List.set_cons_zero, List.set_cons_succ, i64_w, i32_w]
                rfl
              refine pure_ (i := 6) (N := some 53) (v := ?_) (a' := ?_) #[true, true, true, true, true, true, true] rfl rfl (by kernel_rfl) (fun _ _ _ h => h) (Or.inl ⟨by rfl, ?_⟩) ?_ ?_
              rotate_left
              · intro w'
                go_simp
                with_reducible rfl
              rotate_left
              · simp only [Act.put, List.setIfInBounds_toArray, List.set_cons_zero, List.set_cons_succ, i64_w, i32_w]
                rfl
              refine done_ (by kernel_rfl) ?_
              try go_wp2
              (try (rw [drewN_self w17]; generalize hq_ : World.drewN w17 _ = w17; have n0_ : Aside0 (w17.heap[gb106]? = some (.cells #[.int .i64 0, .int .i64 0, .int .i64 0, .int .i64 0, .int .i64 0, .int .i64 0, .int .i64 0, .int .i64 0] 37 (0, 0))) := ⟨by rw [← hq_]; exact (by (with_reducible repeat (first | refine blk_drewN ?_ _ | refine blk_drew ?_ | refine blk_alloc ?_ _)); exact BK106.out)⟩; have n1_ : Aside0 (w17.heap[gb113]? = some (.cells #[.int .i64 (wrap64 ((wrap64 (t109 * 400)) + x9_1)), .int .i64 x114001_2, .int .i64 x114002_2, .int .i64 0, .int .i64 0, .int .i64 0, .int .i64 0, .int .i64 (wrap64 ((wrap64 (t110 - t112)) + 1))] 37 (0, 0))) := ⟨by rw [← hq_]; exact (by (with_reducible repeat (first | refine blk_drewN ?_ _ | refine blk_drew ?_ | refine blk_alloc ?_ _)); exact BK113.out)⟩; have n2_ : Aside0 (Below w.heap.size w w17) := ⟨by rw [← hq_]; exact (by repeat (first | (with_reducible first | exact HB.out | apply below_alloc | apply pw_below_drewN | apply below_drew1 | refine below_set ?_ GE106.out | refine below_set ?_ GE113.out) | exact HB.out))⟩; clear BK106 BK113 HB hq_; have BK106 := n0_; have BK113 := n1_; have HB := n2_; clear n0_ n1_ n2_))
              have n0_ := Aside0.mk (blk_drew BK106.out)
              have n1_ := Aside0.mk (blk_drew BK113.out)
              have n2_ := Aside0.mk (below_drew1 HB.out)
              clear BK106
              clear BK113
              clear HB
              have BK106 := n0_
              have BK113 := n1_
              have HB := n2_
              clear n0_ n1_ n2_
              refine start_ (n := 9) (S := fun w' => w'.cell? ⟨gb113, 0, none⟩ = some (.int .i64 (wrap64 ((wrap64 (t109 * 400)) + x9_1))) ∧ w'.cell? ⟨gb113, 1, none⟩ = some (.int .i64 x114001_2) ∧ w'.cell? ⟨gb113, 2, none⟩ = some (.int .i64 x114002_2) ∧ w'.cell? ⟨gb113, 3, none⟩ = some (.int .i64 0) ∧ w'.cell? ⟨gb113, 4, none⟩ = some (.int .i64 0) ∧ w'.cell? ⟨gb113, 5, none⟩ = some (.int .i64 0) ∧ w'.cell? ⟨gb113, 6, none⟩ = some (.int .i64 0) ∧ w'.cell? ⟨gb113, 7, none⟩ = some (.int .i64 (wrap64 ((wrap64 (t110 - t112)) + 1)))) (ds := [8]) #[false, false, false, false, false, false, false, false, false] (by kernel_rfl) rfl rfl ⟨(blk_cell BK113.out 0).trans rfl, (blk_cell BK113.out 1).trans rfl, (blk_cell BK113.out 2).trans rfl, (blk_cell BK113.out 3).trans rfl, (blk_cell BK113.out 4).trans rfl, (blk_cell BK113.out 5).trans rfl, (blk_cell BK113.out 6).trans rfl, (blk_cell BK113.out 7).trans rfl⟩ (fun hHeld => ?_); refine with_tabW date_Of.tab9 date_Of.bits9 (fun HT_ HW_ => ?_)
              generalize w17.drew = w18 at BK106 BK113 HB hHeld ⊢
              refine pure_ (i := 0) (N := some 54) (v := ?_) (a' := ?_) #[true, false, false, false, false, false, false, false, false] rfl rfl (any_of HT_.out (by kernel_rfl)) (fun _ _ _ h => h) (Or.inl ⟨by rfl, ?_⟩) ?_ ?_
              rotate_left
              · intro w'
                go_simp
                with_reducible rfl
              rotate_left
              · simp only [Act.put, List.setIfInBounds_toArray, List.set_cons_zero, List.set_cons_succ, i64_w, i32_w]
                rfl
              refine pure_ (i := 2) (N := some 56) (v := ?_) (a' := ?_) #[true, false, true, false, false, false, false, false, false] rfl rfl (any_of HT_.out (by kernel_rfl)) (fun _ _ _ h => h) (Or.inl ⟨by rfl, ?_⟩) ?_ ?_
              rotate_left
              · intro w'
                go_simp
                with_reducible rfl
              rotate_left
              · simp only [Act.put, List.setIfInBounds_toArray, List.set_cons_zero, List.set_cons_succ, i64_w, i32_w]
                rfl
              refine pure_ (i := 3) (N := some 57) (v := ?_) (a' := ?_) #[true, false, true, true, false, false, false, false, false] rfl rfl (any_of HT_.out (by kernel_rfl)) (fun _ _ _ h => h) (Or.inl ⟨by rfl, ?_⟩) ?_ ?_
              rotate_left
              · intro w'
                go_simp
                with_reducible rfl
              rotate_left
              · simp only [Act.put, List.setIfInBounds_toArray, List.set_cons_zero, List.set_cons_succ, i64_w, i32_w]
                rfl
              refine take_ (i := 1) (N := some 55) (v := ?_) (a' := ?_) #[true, true, true, true, false, false, false, false, false] rfl rfl (take_ofW HT_.out HW_.out (by kernel_rfl)) (fun _ _ _ h => h) (Or.inl ⟨by rfl, ?_⟩) hHeld ?_ ?_
              rotate_left
              · rintro w' ⟨s0, s1, s2, s3, s4, s5, s6, s7⟩
                go_simp
                with_reducible rfl
              rotate_left
              · simp only [Act.put, List.setIfInBounds_toArray, List.set_cons_zero, List.set_cons_succ, i64_w, i32_w]
                rfl
              refine take_ (i := 4) (N := some 58) (v := ?_) (a' := ?_) #[true, true, true, true, true, false, false, false, false] rfl rfl (take_ofW HT_.out HW_.out (by kernel_rfl)) (fun _ _ _ h => h) (Or.inl ⟨by rfl, ?_⟩) hHeld ?_ ?_
              rotate_left
              · rintro w' ⟨s0, s1, s2, s3, s4, s5, s6, s7⟩
                go_simp
                with_reducible rfl
              rotate_left
              · simp only [Act.put, List.setIfInBounds_toArray, List.set_cons_zero, List.set_cons_succ, i64_w, i32_w]
                rfl
              refine one_ (i := 5) (N := some 59) #[true, true, true, true, true, true, false, false, false] rfl rfl (one_of HT_.out (by kernel_rfl)) (by decide) (fun K hK => ?_)
              refine goes_ Try.func23 (by kernel_rfl) rfl #[.int .i64 x9_1, .int .i64 x114001_2] (by rfl) rfl rfl (by (try simp only [List.map_toArray, List.map_cons, List.map_nil]); first | done | rfl | (simp only [List.length_drop, List.length_take]; rfl)) ?_
              with_reducible refine (date_Days.calls k2 x9_1 x114001_2 t115 _ A16.out).mono ?_
              rintro e w' ⟨rfl, ⟨nd, rfl⟩⟩
              refine ⟨_, rfl, ?_⟩
              refine hK.out _ _ ⟨(blk_cell BK113.out 0).trans rfl, (blk_cell BK113.out 1).trans rfl, (blk_cell BK113.out 2).trans rfl, (blk_cell BK113.out 3).trans rfl, (blk_cell BK113.out 4).trans rfl, (blk_cell BK113.out 5).trans rfl, (blk_cell BK113.out 6).trans rfl, (blk_cell BK113.out 7).trans rfl⟩ (fun hHeld => ?_)
              clear hK K
              refine norm_ (a' := ?_) ?_ ?_
              rotate_left
              · show Act.put _ (some 59) _ = _
                simp only [Act.put, List.setIfInBounds_toArray, List.set_cons_zero, List.set_cons_succ, i64_w, i32_w]
                rfl
              refine pure_ (i := 6) (N := some 60) (v := ?_) (a' := ?_) #[true, true, true, true, true, true, true, false, false] rfl rfl (any_of HT_.out (by kernel_rfl)) (fun _ _ _ h => h) (Or.inl ⟨by rfl, ?_⟩) ?_ ?_
              rotate_left
              · intro w'
                go_simp
                with_reducible rfl
              rotate_left
              · simp only [Act.put, List.setIfInBounds_toArray, List.set_cons_zero, List.set_cons_succ, i64_w, i32_w]
                rfl
              refine pure_ (i := 7) (N := some 61) (v := ?_) (a' := ?_) #[true, true, true, true, true, true, true, true, false] rfl rfl (any_of HT_.out (by kernel_rfl)) (fun _ _ _ h => h) (Or.inl ⟨by rfl, ?_⟩) ?_ ?_
              rotate_left
              · intro w'
                go_simp
                with_reducible rfl
              rotate_left
              · simp only [Act.put, List.setIfInBounds_toArray, List.set_cons_zero, List.set_cons_succ, i64_w, i32_w]
                rfl
              refine last_ (i := 8) (N := none) #[true, true, true, true, true, true, true, true, true] rfl rfl (one_of HT_.out (by kernel_rfl)) (by decide) (fun K hK => ?_)
              have hs19 : w18.cell? ⟨gb113, 2, none⟩ = some (.int .i64 x114002_2) := (blk_cell BK113.out 2).trans rfl
              have hfs19 := blk_frozen BK113.out 2
              have hns19_0 := NB106_113.out
              have hms19_0 := NB113_106.out
              refine skip_ (w1 := ?_) (by rfl) rfl ?_ ?_
              rotate_left
              · go_simp
                rfl
              refine hK.out _ _ ?_
              clear hK K
              refine done_ (done_of HT_.out (by kernel_rfl)) ?_
              have hnb20 := NB113_106.out
              have hnc20 := NB106_113.out
              have hcz21_0 : w18.cell? ⟨gb113, 0, none⟩ = some (.int .i64 (wrap64 ((wrap64 (t109 * 400)) + x9_1))) := (blk_cell BK113.out 0).trans rfl
              have hcz21_1 : w18.cell? ⟨gb113, 1, none⟩ = some (.int .i64 x114001_2) := (blk_cell BK113.out 1).trans rfl
              have hcz21_2 : w18.cell? ⟨gb113, 2, none⟩ = some (.int .i64 x114002_2) := (blk_cell BK113.out 2).trans rfl
              have hcz21_3 : w18.cell? ⟨gb113, 3, none⟩ = some (.int .i64 0) := (blk_cell BK113.out 3).trans rfl
              have hcz21_4 : w18.cell? ⟨gb113, 4, none⟩ = some (.int .i64 0) := (blk_cell BK113.out 4).trans rfl
              have hcz21_5 : w18.cell? ⟨gb113, 5, none⟩ = some (.int .i64 0) := (blk_cell BK113.out 5).trans rfl
              have hcz21_6 : w18.cell? ⟨gb113, 6, none⟩ = some (.int .i64 0) := (blk_cell BK113.out 6).trans rfl
              have hcz21_7 : w18.cell? ⟨gb113, 7, none⟩ = some (.int .i64 (wrap64 ((wrap64 (t110 - t112)) + 1))) := (blk_cell BK113.out 7).trans rfl
              have hfz21_0 := blk_frozen BK113.out 0
              have hfz21_1 := blk_frozen BK113.out 1
              have hfz21_2 := blk_frozen BK113.out 2
              have hfz21_3 := blk_frozen BK113.out 3
              have hfz21_4 := blk_frozen BK113.out 4
              have hfz21_5 := blk_frozen BK113.out 5
              have hfz21_6 := blk_frozen BK113.out 6
              have hfz21_7 := blk_frozen BK113.out 7
              try go_wp2
              go_roundg k2
              case measure => have := HK1.out; have := HK2.out; omega
              case rel => exact ⟨(wrap64 (x114001_2 + 1)), (wrap64 (x114002_2 - t115)), H', ⟨by have := HK1.out; have := HK2.out; omega⟩, ⟨by (with_reducible repeat (first | refine blk_drewN ?_ _ | refine blk_drew ?_ | refine blk_alloc ?_ _)); refine blk_far ?_ NB106_113.out _; (with_reducible repeat (first | refine blk_drewN ?_ _ | refine blk_drew ?_ | refine blk_alloc ?_ _)); refine blk_far ?_ NB106_113.out _; (with_reducible repeat (first | refine blk_drewN ?_ _ | refine blk_drew ?_ | refine blk_alloc ?_ _)); exact BK106.out⟩, ⟨by (with_reducible repeat (first | refine blk_drewN ?_ _ | refine blk_drew ?_ | refine blk_alloc ?_ _)); refine blk_put (cs := #[.int .i64 (wrap64 ((wrap64 (t109 * 400)) + x9_1)), .int .i64 x114001_2, .int .i64 (wrap64 (x114002_2 - t115)), .int .i64 0, .int .i64 0, .int .i64 0, .int .i64 0, .int .i64 (wrap64 ((wrap64 (t110 - t112)) + 1))]) ?_ 1 _ (by first | rfl | (simp; done)); (with_reducible repeat (first | refine blk_drewN ?_ _ | refine blk_drew ?_ | refine blk_alloc ?_ _)); refine blk_put (cs := #[.int .i64 (wrap64 ((wrap64 (t109 * 400)) + x9_1)), .int .i64 x114001_2, .int .i64 x114002_2, .int .i64 0, .int .i64 0, .int .i64 0, .int .i64 0, .int .i64 (wrap64 ((wrap64 (t110 - t112)) + 1))]) ?_ 2 _ (by first | rfl | (simp; done)); (with_reducible repeat (first | refine blk_drewN ?_ _ | refine blk_drew ?_ | refine blk_alloc ?_ _)); exact BK113.out⟩, ⟨by repeat (first | (with_reducible first | exact HB.out | apply below_alloc | apply pw_below_drewN | apply below_drew1 | refine below_set ?_ GE106.out | refine below_set ?_ GE113.out) | exact HB.out)⟩⟩
            · rw [if_neg c15] at H
              have c15b0 : decide (t114 < x114002_2) = false := decide_eq_false c15
              clear c15
              replace H := Option.bind_eq_some_iff.mp H
              obtain ⟨⟨t116, t117⟩, A220, H⟩ := H
              replace H : (some ((wrap64 ((wrap64 (t109 * 400)) + x9_1)), x114001_2, x114002_2, wrap64 (Int.tdiv t108 3600), Int.tmod (wrap64 (Int.tdiv t108 60)) 60, Int.tmod t108 60, t117, (wrap64 ((wrap64 (t110 - t112)) + 1)))) = some (r1, r2, r3, r4, r5, r6, r7, r8) := H
              have A22 := Aside0.mk A220
              clear A220
              simp only [Option.some.injEq, Prod.mk.injEq] at H
              obtain ⟨rfl, rfl, rfl, rfl, rfl, rfl, rfl, rfl⟩ := H
              try go_wp2
              have n0_ := Aside0.mk (blk_drew BK106.out)
              have n1_ := Aside0.mk (blk_drew BK113.out)
              have n2_ := Aside0.mk (below_drew1 HB.out)
              clear BK106
              clear BK113
              clear HB
              have BK106 := n0_
              have BK113 := n1_
              have HB := n2_
              clear n0_ n1_ n2_
              refine start_ (n := 7) (S := fun w' => w'.cell? ⟨gb113, 0, none⟩ = some (.int .i64 (wrap64 ((wrap64 (t109 * 400)) + x9_1))) ∧ w'.cell? ⟨gb113, 1, none⟩ = some (.int .i64 x114001_2) ∧ w'.cell? ⟨gb113, 2, none⟩ = some (.int .i64 x114002_2) ∧ w'.cell? ⟨gb113, 3, none⟩ = some (.int .i64 0) ∧ w'.cell? ⟨gb113, 4, none⟩ = some (.int .i64 0) ∧ w'.cell? ⟨gb113, 5, none⟩ = some (.int .i64 0) ∧ w'.cell? ⟨gb113, 6, none⟩ = some (.int .i64 0) ∧ w'.cell? ⟨gb113, 7, none⟩ = some (.int .i64 (wrap64 ((wrap64 (t110 - t112)) + 1)))) (ds := []) #[false, false, false, false, false, false, false] (by kernel_rfl) rfl rfl ⟨(blk_cell BK113.out 0).trans rfl, (blk_cell BK113.out 1).trans rfl, (blk_cell BK113.out 2).trans rfl, (blk_cell BK113.out 3).trans rfl, (blk_cell BK113.out 4).trans rfl, (blk_cell BK113.out 5).trans rfl, (blk_cell BK113.out 6).trans rfl, (blk_cell BK113.out 7).trans rfl⟩ (fun hHeld => ?_)
              generalize wr.drew = w23 at BK106 BK113 HB hHeld ⊢
              refine pure_ (i := 0) (N := some 47) (v := ?_) (a' := ?_) #[true, false, false, false, false, false, false] rfl rfl (by kernel_rfl) (fun _ _ _ h => h) (Or.inl ⟨by rfl, ?_⟩) ?_ ?_
              rotate_left
              · intro w'
                go_simp
                with_reducible rfl
              rotate_left
              · simp only [Act.put, List.setIfInBounds_toArray, List.set_cons_zero, List.set_cons_succ, i64_w, i32_w]
                rfl
              refine pure_ (i := 2) (N := some 49) (v := ?_) (a' := ?_) #[true, false, true, false, false, false, false] rfl rfl (by kernel_rfl) (fun _ _ _ h => h) (Or.inl ⟨by rfl, ?_⟩) ?_ ?_
              rotate_left
              · intro w'
                go_simp
                with_reducible rfl
              rotate_left
              · simp only [Act.put, List.setIfInBounds_toArray, List.set_cons_zero, List.set_cons_succ, i64_w, i32_w]
                rfl
              refine pure_ (i := 3) (N := some 50) (v := ?_) (a' := ?_) #[true, false, true, true, false, false, false] rfl rfl (by kernel_rfl) (fun _ _ _ h => h) (Or.inl ⟨by rfl, ?_⟩) ?_ ?_
              rotate_left
              · intro w'
                go_simp
                with_reducible rfl
              rotate_left
              · simp only [Act.put, List.setIfInBounds_toArray, List.set_cons_zero, List.set_cons_succ, i64_w, i32_w]
                rfl
              refine take_ (i := 1) (N := some 48) (v := ?_) (a' := ?_) #[true, true, true, true, false, false, false] rfl rfl (by kernel_rfl) (fun _ _ _ h => h) (Or.inl ⟨by rfl, ?_⟩) hHeld ?_ ?_
              rotate_left
              · rintro w' ⟨s0, s1, s2, s3, s4, s5, s6, s7⟩
                go_simp
                with_reducible rfl
              rotate_left
              · simp only [Act.put, List.setIfInBounds_toArray, List.set_cons_zero, List.set_cons_succ, i64_w, i32_w]
                rfl
              refine take_ (i := 4) (N := some 51) (v := ?_) (a' := ?_) #[true, true, true, true, true, false, false] rfl rfl (by kernel_rfl) (fun _ _ _ h => h) (Or.inl ⟨by rfl, ?_⟩) hHeld ?_ ?_
              rotate_left
              · rintro w' ⟨s0, s1, s2, s3, s4, s5, s6, s7⟩
                go_simp
                with_reducible rfl
              rotate_left
              · simp only [Act.put, List.setIfInBounds_toArray, List.set_cons_zero, List.set_cons_succ, i64_w, i32_w]
                rfl
              refine one_ (i := 5) (N := some 52) #[true, true, true, true, true, true, false] rfl rfl (by kernel_rfl) (by decide) (fun K hK => ?_)
              refine goes_ Try.func23 (by kernel_rfl) rfl #[.int .i64 x9_1, .int .i64 x114001_2] (by rfl) rfl rfl (by (try simp only [List.map_toArray, List.map_cons, List.map_nil]); first | done | rfl | (simp only [List.length_drop, List.length_take]; rfl)) ?_
              with_reducible refine (date_Days.calls k2 x9_1 x114001_2 t114 _ A14.out).mono ?_
              rintro e w' ⟨rfl, ⟨nd, rfl⟩⟩
              refine ⟨_, rfl, ?_⟩
              refine hK.out _ _ ⟨(blk_cell BK113.out 0).trans rfl, (blk_cell BK113.out 1).trans rfl, (blk_cell BK113.out 2).trans rfl, (blk_cell BK113.out 3).trans rfl, (blk_cell BK113.out 4).trans rfl, (blk_cell BK113.out 5).trans rfl, (blk_cell BK113.out 6).trans rfl, (blk_cell BK113.out 7).trans rfl⟩ (fun hHeld => ?_)
              clear hK K
              refine norm_ (a' := ?_) ?_ ?_
              rotate_left
              · show Act.put _ (some 52) _ = _
                simp only [Act.put, List.setIfInBounds_toArray, List.set_cons_zero, List.set_cons_succ, i64_w, i32_w]
                rfl
              refine pure_ (i := 6) (N := some 53) (v := ?_) (a' := ?_) #[true, true, true, true, true, true, true] rfl rfl (by kernel_rfl) (fun _ _ _ h => h) (Or.inl ⟨by rfl, ?_⟩) ?_ ?_
              rotate_left
              · intro w'
                go_simp
                with_reducible rfl
              rotate_left
              · simp only [Act.put, List.setIfInBounds_toArray, List.set_cons_zero, List.set_cons_succ, i64_w, i32_w]
                rfl
              refine done_ (by kernel_rfl) ?_
              have hnb24 := NB113_106.out
              have hnc24 := NB106_113.out
              have hcz25_0 : w23.cell? ⟨gb113, 0, none⟩ = some (.int .i64 (wrap64 ((wrap64 (t109 * 400)) + x9_1))) := (blk_cell BK113.out 0).trans rfl
              have hcz25_1 : w23.cell? ⟨gb113, 1, none⟩ = some (.int .i64 x114001_2) := (blk_cell BK113.out 1).trans rfl
              have hcz25_2 : w23.cell? ⟨gb113, 2, none⟩ = some (.int .i64 x114002_2) := (blk_cell BK113.out 2).trans rfl
              have hcz25_3 : w23.cell? ⟨gb113, 3, none⟩ = some (.int .i64 0) := (blk_cell BK113.out 3).trans rfl
              have hcz25_4 : w23.cell? ⟨gb113, 4, none⟩ = some (.int .i64 0) := (blk_cell BK113.out 4).trans rfl
              have hcz25_5 : w23.cell? ⟨gb113, 5, none⟩ = some (.int .i64 0) := (blk_cell BK113.out 5).trans rfl
              have hcz25_6 : w23.cell? ⟨gb113, 6, none⟩ = some (.int .i64 0) := (blk_cell BK113.out 6).trans rfl
              have hcz25_7 : w23.cell? ⟨gb113, 7, none⟩ = some (.int .i64 (wrap64 ((wrap64 (t110 - t112)) + 1))) := (blk_cell BK113.out 7).trans rfl
              have hfz25_0 := blk_frozen BK113.out 0
              have hfz25_1 := blk_frozen BK113.out 1
              have hfz25_2 := blk_frozen BK113.out 2
              have hfz25_3 := blk_frozen BK113.out 3
              have hfz25_4 := blk_frozen BK113.out 4
              have hfz25_5 := blk_frozen BK113.out 5
              have hfz25_6 := blk_frozen BK113.out 6
              have hfz25_7 := blk_frozen BK113.out 7
              try go_wp2_with (first | ((with_reducible refine gate_callee (f := 36) rfl ?_); refine goesL_ (some 79) rfl rfl Try.func36 (by kernel_rfl) rfl #[.int .i64 (wrap64 (t107 + 4)), .int .i64 7] rfl (by (try simp only [List.map_toArray, List.map_cons, List.map_nil]); first | done | rfl | (simp only [List.length_drop, List.length_take]; rfl)) ?_; (with_reducible refine (date_floor.calls (wrap64 (t107 + 4)) 7 t116 t117 _ A22.out).mono ?_); rintro e w' ⟨rfl, ⟨nd, rfl⟩⟩; refine ⟨_, rfl, ?_⟩; have hcz26_0 : w23.cell? ⟨gb106, 0, none⟩ = some (.int .i64 0) := (blk_cell BK106.out 0).trans rfl; have hcz26_1 : w23.cell? ⟨gb106, 1, none⟩ = some (.int .i64 0) := (blk_cell BK106.out 1).trans rfl; have hcz26_2 : w23.cell? ⟨gb106, 2, none⟩ = some (.int .i64 0) := (blk_cell BK106.out 2).trans rfl; have hcz26_3 : w23.cell? ⟨gb106, 3, none⟩ = some (.int .i64 0) := (blk_cell BK106.out 3).trans rfl; have hcz26_4 : w23.cell? ⟨gb106, 4, none⟩ = some (.int .i64 0) := (blk_cell BK106.out 4).trans rfl; have hcz26_5 : w23.cell? ⟨gb106, 5, none⟩ = some (.int .i64 0) := (blk_cell BK106.out 5).trans rfl; have hcz26_6 : w23.cell? ⟨gb106, 6, none⟩ = some (.int .i64 0) := (blk_cell BK106.out 6).trans rfl; have hcz26_7 : w23.cell? ⟨gb106, 7, none⟩ = some (.int .i64 0) := (blk_cell BK106.out 7).trans rfl; have hfz26_0 := blk_frozen BK106.out 0; have hfz26_1 := blk_frozen BK106.out 1; have hfz26_2 := blk_frozen BK106.out 2; have hfz26_3 := blk_frozen BK106.out 3; have hfz26_4 := blk_frozen BK106.out 4; have hfz26_5 := blk_frozen BK106.out 5; have hfz26_6 := blk_frozen BK106.out 6; have hfz26_7 := blk_frozen BK106.out 7))
              refine bodyPost_ret (results_cell_row rfl _ _ gb106 37 #[.int .i64 (wrap64 ((wrap64 (t109 * 400)) + x9_1)), .int .i64 x114001_2, .int .i64 x114002_2, .int .i64 (wrap64 (Int.tdiv t108 3600)), .int .i64 (Int.tmod (wrap64 (Int.tdiv t108 60)) 60), .int .i64 (Int.tmod t108 60), .int .i64 t117, .int .i64 (wrap64 ((wrap64 (t110 - t112)) + 1))] (0, 0) _ rfl (by (with_reducible repeat (first | refine blk_drewN ?_ _ | refine blk_drew ?_ | refine blk_alloc ?_ _)); refine blk_put (cs := #[.int .i64 (wrap64 ((wrap64 (t109 * 400)) + x9_1)), .int .i64 x114001_2, .int .i64 x114002_2, .int .i64 (wrap64 (Int.tdiv t108 3600)), .int .i64 (Int.tmod (wrap64 (Int.tdiv t108 60)) 60), .int .i64 (Int.tmod t108 60), .int .i64 t117, .int .i64 0]) ?_ 7 _ (by first | rfl | (simp; done)); (with_reducible repeat (first | refine blk_drewN ?_ _ | refine blk_drew ?_ | refine blk_alloc ?_ _)); refine blk_put (cs := #[.int .i64 (wrap64 ((wrap64 (t109 * 400)) + x9_1)), .int .i64 x114001_2, .int .i64 x114002_2, .int .i64 (wrap64 (Int.tdiv t108 3600)), .int .i64 (Int.tmod (wrap64 (Int.tdiv t108 60)) 60), .int .i64 (Int.tmod t108 60), .int .i64 0, .int .i64 0]) ?_ 6 _ (by first | rfl | (simp; done)); (with_reducible repeat (first | refine blk_drewN ?_ _ | refine blk_drew ?_ | refine blk_alloc ?_ _)); refine blk_put (cs := #[.int .i64 (wrap64 ((wrap64 (t109 * 400)) + x9_1)), .int .i64 x114001_2, .int .i64 x114002_2, .int .i64 (wrap64 (Int.tdiv t108 3600)), .int .i64 (Int.tmod (wrap64 (Int.tdiv t108 60)) 60), .int .i64 0, .int .i64 0, .int .i64 0]) ?_ 5 _ (by first | rfl | (simp; done)); (with_reducible repeat (first | refine blk_drewN ?_ _ | refine blk_drew ?_ | refine blk_alloc ?_ _)); refine blk_put (cs := #[.int .i64 (wrap64 ((wrap64 (t109 * 400)) + x9_1)), .int .i64 x114001_2, .int .i64 x114002_2, .int .i64 (wrap64 (Int.tdiv t108 3600)), .int .i64 0, .int .i64 0, .int .i64 0, .int .i64 0]) ?_ 4 _ (by first | rfl | (simp; done)); (with_reducible repeat (first | refine blk_drewN ?_ _ | refine blk_drew ?_ | refine blk_alloc ?_ _)); refine blk_put (cs := #[.int .i64 (wrap64 ((wrap64 (t109 * 400)) + x9_1)), .int .i64 x114001_2, .int .i64 x114002_2, .int .i64 0, .int .i64 0, .int .i64 0, .int .i64 0, .int .i64 0]) ?_ 3 _ (by first | rfl | (simp; done)); (with_reducible repeat (first | refine blk_drewN ?_ _ | refine blk_drew ?_ | refine blk_alloc ?_ _)); refine blk_put (cs := #[.int .i64 (wrap64 ((wrap64 (t109 * 400)) + x9_1)), .int .i64 x114001_2, .int .i64 0, .int .i64 0, .int .i64 0, .int .i64 0, .int .i64 0, .int .i64 0]) ?_ 2 _ (by first | rfl | (simp; done)); (with_reducible repeat (first | refine blk_drewN ?_ _ | refine blk_drew ?_ | refine blk_alloc ?_ _)); refine blk_put (cs := #[.int .i64 (wrap64 ((wrap64 (t109 * 400)) + x9_1)), .int .i64 0, .int .i64 0, .int .i64 0, .int .i64 0, .int .i64 0, .int .i64 0, .int .i64 0]) ?_ 1 _ (by first | rfl | (simp; done)); (with_reducible repeat (first | refine blk_drewN ?_ _ | refine blk_drew ?_ | refine blk_alloc ?_ _)); refine blk_put (cs := #[.int .i64 0, .int .i64 0, .int .i64 0, .int .i64 0, .int .i64 0, .int .i64 0, .int .i64 0, .int .i64 0]) ?_ 0 _ (by first | rfl | (simp; done)); (with_reducible repeat (first | refine blk_drewN ?_ _ | refine blk_drew ?_ | refine blk_alloc ?_ _)); refine blk_far ?_ NB106_113.out _; (with_reducible repeat (first | refine blk_drewN ?_ _ | refine blk_drew ?_ | refine blk_alloc ?_ _)); refine blk_far ?_ NB106_113.out _; (with_reducible repeat (first | refine blk_drewN ?_ _ | refine blk_drew ?_ | refine blk_alloc ?_ _)); refine blk_far ?_ NB106_113.out _; (with_reducible repeat (first | refine blk_drewN ?_ _ | refine blk_drew ?_ | refine blk_alloc ?_ _)); refine blk_far ?_ NB106_113.out _; (with_reducible repeat (first | refine blk_drewN ?_ _ | refine blk_drew ?_ | refine blk_alloc ?_ _)); exact BK106.out) Try.underlying37 rfl (by kernel_rfl)) rfl ?_
              exact ⟨by first | rfl | (simp [errW_none, errW_some] <;> rfl) | (simp only [← hji5]; first | rfl | (simp [errW_none, errW_some] <;> rfl)) | (simp [*, errW_none, errW_some] <;> rfl), by repeat (first | (with_reducible first | exact HB.out | apply below_alloc | apply pw_below_drewN | apply below_drew1 | refine below_set ?_ GE106.out | refine below_set ?_ GE113.out) | exact HB.out)⟩

/-! ### domesdaylaw04_awake: function 20 -/
def domesdaylaw04_awake.f (k : Nat)  : Option (Bool) := (date_Of.f k 0 3600).bind fun bt118 => (if bt118.2.2.2.1 = 1 then ((date_Days.f k 2000 2).bind fun t126 => (some (t126 == 29))) else (some false))
theorem domesdaylaw04_awake.mono : ∀ k, LeO (domesdaylaw04_awake.f k ) (domesdaylaw04_awake.f (k + 1) ) := by
  intro  k
  unfold domesdaylaw04_awake.f
  repeat' first
      | (with_reducible exact date_Days.mono _ _ _)
      | (with_reducible exact date_Of.mono _ _ _)
      | (with_reducible exact LeO.refl _)
      | (with_reducible exact LeO.none _)
      | (with_reducible refine LeO.ite ?_ ?_)
      | (with_reducible refine LeO.bind ?_ (fun _ => ?_))
      | exact date_Days.mono _ _ _
      | exact date_Of.mono _ _ _
      | exact LeO.none _
      | refine LeO.ite ?_ ?_
      | refine LeO.bind ?_ (fun _ => ?_)
set_option maxHeartbeats 8000000 in
set_option maxRecDepth 100000 in
theorem domesdaylaw04_awake.calls (k : Nat)  (r : Bool) (w : World) (h : domesdaylaw04_awake.f k  = some r) :
    Calls Try.prog 20 #[] w fun e w' => e = .returned (.bool r) ∧ Below w.heap.size w w' := by
  have HB := Aside0.mk (Below.refl w.heap.size w)
  have H : ((date_Of.f k 0 3600).bind fun bt118 => (if bt118.2.2.2.1 = 1 then ((date_Days.f k 2000 2).bind fun t126 => (some (t126 == 29))) else (some false))) = some r := h
  clear h
  replace H := Option.bind_eq_some_iff.mp H
  obtain ⟨⟨t118, t119, t120, t121, t122, t123, t124, t125⟩, A10, H⟩ := H
  replace H : (if t121 = 1 then ((date_Days.f k 2000 2).bind fun t126 => (some (t126 == 29))) else (some false)) = some r := H
  have A1 := Aside0.mk A10
  clear A10
  by_cases c2 : t121 = 1
  · rw [if_pos c2] at H
    have c2b0 : (t121 == 1) = true := beq_iff_eq.mpr c2
    have c2b1 : (t121 != 1) = false := bne_eq_false_iff_eq.mpr c2
    clear c2
    replace H := Option.bind_eq_some_iff.mp H
    obtain ⟨t126, A30, H⟩ := H
    replace H : (some (t126 == 29)) = some r := H
    have A3 := Aside0.mk A30
    clear A30
    obtain rfl := Option.some.inj H
    go_enter Try.func20, Try.ntmps20
    go_wp2_with (first | ((with_reducible refine gate_callee (f := 25) rfl ?_); refine goesL_ (some 1) rfl rfl Try.func25 (by kernel_rfl) rfl #[.int .i64 0, .int .i64 3600] rfl (by (try simp only [List.map_toArray, List.map_cons, List.map_nil]); first | done | rfl | (simp only [List.length_drop, List.length_take]; rfl)) ?_; (with_reducible refine (date_Of.calls k 0 3600 t118 t119 t120 t121 t122 t123 t124 t125 _ A1.out).mono ?_); rintro e w4 ⟨rfl, hb⟩; refine ⟨_, rfl, ?_⟩; have n0_ := Aside0.mk (below_step (by repeat (first | (with_reducible first | exact HB.out | apply below_alloc | apply pw_below_drewN | apply below_drew1) | exact HB.out)) hb); clear HB; have HB := n0_; clear n0_; (try clear hb); (try clear hb2); (try clear hk); (try clear hi)) | (go_at_call 23; (with_reducible refine (date_Days.calls k 2000 2 t126 _ A3.out).mono ?_); rintro e w' ⟨rfl, ⟨nd, rfl⟩⟩))
    go_ret
    exact ⟨by first | rfl | (simp [errW_none, errW_some] <;> rfl) | (simp [*, errW_none, errW_some] <;> rfl), by repeat (first | (with_reducible first | exact HB.out | apply below_alloc | apply pw_below_drewN | apply below_drew1) | exact HB.out)⟩
  · rw [if_neg c2] at H
    have c2b0 : (t121 == 1) = false := beq_eq_false_iff_ne.mpr c2
    have c2b1 : (t121 != 1) = true := bne_iff_ne.mpr c2
    obtain rfl := Option.some.inj H
    go_enter Try.func20, Try.ntmps20
    go_wp2_with (first | ((with_reducible refine gate_callee (f := 25) rfl ?_); refine goesL_ (some 1) rfl rfl Try.func25 (by kernel_rfl) rfl #[.int .i64 0, .int .i64 3600] rfl (by (try simp only [List.map_toArray, List.map_cons, List.map_nil]); first | done | rfl | (simp only [List.length_drop, List.length_take]; rfl)) ?_; (with_reducible refine (date_Of.calls k 0 3600 t118 t119 t120 t121 t122 t123 t124 t125 _ A1.out).mono ?_); rintro e w5 ⟨rfl, hb⟩; refine ⟨_, rfl, ?_⟩; have n0_ := Aside0.mk (below_step (by repeat (first | (with_reducible first | exact HB.out | apply below_alloc | apply pw_below_drewN | apply below_drew1) | exact HB.out)) hb); clear HB; have HB := n0_; clear n0_; (try clear hb); (try clear hb2); (try clear hk); (try clear hi)))
    go_ret
    exact ⟨by first | rfl | (simp [errW_none, errW_some] <;> rfl) | (simp [*, errW_none, errW_some] <;> rfl), by repeat (first | (with_reducible first | exact HB.out | apply below_alloc | apply pw_below_drewN | apply below_drew1) | exact HB.out)⟩

end Go.Proofs.Ytngcecmfgjgigaa.QDateNext
