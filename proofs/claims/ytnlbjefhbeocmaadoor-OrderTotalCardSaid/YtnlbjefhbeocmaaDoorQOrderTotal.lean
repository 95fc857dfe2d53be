-- Made by a program of this session.
import Derived.Test.YtnlbjefhbeocmaaDoorQOrderComparesx0
import Derived.Test.YtnlbjefhbeocmaaDoorQOrderComparesx3
namespace Go.Proofs.YtnlbjefhbeocmaaDoor.QOrderCompares
open Go.RowKit Go.Proofs.YtnlbjefhbeocmaaDoorW.PrintWords Go.Proofs.YtnlbjefhbeocmaaDoorW.PrintLast Go.Proofs.YtnlbjefhbeocmaaDoorW.PrintMore
attribute [local go_sem] max2_int min2_int max_two min_two max_three min_three max_four min_four   -- for this text's walks alone
open Go.Proofs.YtnlbjefhbeocmaaDoor.Ext
set_option linter.unusedVariables false
set_option linter.unusedSimpArgs false

/-- A box of three keys, read as a row of them. -/
theorem C_arr31 {w : World} {g : Nat} {a0 a1 a2 : ByteArray} {b0 b1 b2 c0 c1 c2 : Int} {d0 d1 d2 : Bool}
    (h : w.heap[g]? = some (.cells #[.string a0, .int .i64 b0, .int .i64 c0, .bool d0, .string a1, .int .i64 b1, .int .i64 c1, .bool d1, .string a2, .int .i64 b2, .int .i64 c2, .bool d2] 31 (0, 0))) :
    Kd.C k23 w (some ⟨g, 0, none⟩) ([(⟨a0, b0, c0, d0⟩ : S23), (⟨a1, b1, c1, d1⟩ : S23), (⟨a2, b2, c2, d2⟩ : S23)] : List S23).length ([(⟨a0, b0, c0, d0⟩ : S23), (⟨a1, b1, c1, d1⟩ : S23), (⟨a2, b2, c2, d2⟩ : S23)] : List S23) := by
  refine ⟨rfl, (show (3 : Nat) ≤ 9223372036854775807 from by omega), fun _ => ⟨_, rfl, ?_⟩⟩
  have one : ∀ (x : S23), ∃ c : List Value, c = [.string x.f0, .int .i64 x.f1, .int .i64 x.f2, .bool x.f3] ∧ c.length = k23.sz ∧ k23.K w x c := by
    intro x
    refine ⟨_, rfl, rfl, ?_⟩
    exact ⟨[.string x.f0], [.int .i64 x.f1, .int .i64 x.f2, .bool x.f3], rfl, rfl, ⟨[.int .i64 x.f1], [.int .i64 x.f2, .bool x.f3], rfl, rfl, ⟨[.int .i64 x.f2], [.bool x.f3], rfl, rfl, rfl⟩⟩⟩
  intro j p hp
  match j, hp with
  | 0, hp =>
    obtain rfl := Option.some.inj hp
    obtain ⟨c, e, h1, h2⟩ := one ⟨a0, b0, c0, d0⟩
    subst e
    refine ⟨_, h1, h2, ?_⟩
    intro i u hi
    match i, hi with
    | 0, hi => exact (blk_cell h 0).trans hi
    | 1, hi => exact (blk_cell h 1).trans hi
    | 2, hi => exact (blk_cell h 2).trans hi
    | 3, hi => exact (blk_cell h 3).trans hi
    | i + 4, hi => simp at hi
  | 1, hp =>
    obtain rfl := Option.some.inj hp
    obtain ⟨c, e, h1, h2⟩ := one ⟨a1, b1, c1, d1⟩
    subst e
    refine ⟨_, h1, h2, ?_⟩
    intro i u hi
    match i, hi with
    | 0, hi => exact (blk_cell h 4).trans hi
    | 1, hi => exact (blk_cell h 5).trans hi
    | 2, hi => exact (blk_cell h 6).trans hi
    | 3, hi => exact (blk_cell h 7).trans hi
    | i + 4, hi => simp at hi
  | 2, hp =>
    obtain rfl := Option.some.inj hp
    obtain ⟨c, e, h1, h2⟩ := one ⟨a2, b2, c2, d2⟩
    subst e
    refine ⟨_, h1, h2, ?_⟩
    intro i u hi
    match i, hi with
    | 0, hi => exact (blk_cell h 8).trans hi
    | 1, hi => exact (blk_cell h 9).trans hi
    | 2, hi => exact (blk_cell h 10).trans hi
    | 3, hi => exact (blk_cell h 11).trans hi
    | i + 4, hi => simp at hi
  | j + 3, hp => simp at hp
/-! ### domesdaylaw10_OrderTotal: function 4 -/
def domesdaylaw10_OrderTotal.j0 : Nat → Int → Bool → ByteArray → Int → Int → Bool → ByteArray → Int → Int → Bool → ByteArray → Int → Int → Bool → Option (Bool)
  | 0, _, _, _, _, _, _, _, _, _, _, _, _, _, _ => none
  | k + 1, x0, x14, x173000, x173001, x173002, x173003, x173004, x173005, x173006, x173007, x173008, x173009, x173010, x173011 => if x14 = true then ((domesdaylaw10_awake.f k).bind fun t175 => (some t175)) else ((order_Compare.f k x0 x173000 x173001 x173002 x173003 x173004 x173005 x173006 x173007).bind fun t176 => ((order_Compare.f k x0 x173004 x173005 x173006 x173007 x173008 x173009 x173010 x173011).bind fun t177 => ((order_Compare.f k x0 x173000 x173001 x173002 x173003 x173008 x173009 x173010 x173011).bind fun t178 => ((order_Compare.f k x0 x173004 x173005 x173006 x173007 x173000 x173001 x173002 x173003).bind fun t179 => (if t179 = (wrap64 (-t176)) then ((order_Compare.f k x0 x173000 x173001 x173002 x173003 x173000 x173001 x173002 x173003).bind fun t180 => (if t180 = 0 then (if t176 > 0 then (some true) else (if t177 > 0 then (some true) else (some (decide (t178 ≤ 0))))) else (none))) else (none))))))
def domesdaylaw10_OrderTotal.f (k : Nat) (a0 : Int) (a1_0 : ByteArray) (a1_1 : Int) (a1_2 : Int) (a1_3 : Bool) (a1_4 : ByteArray) (a1_5 : Int) (a1_6 : Int) (a1_7 : Bool) (a1_8 : ByteArray) (a1_9 : Int) (a1_10 : Int) (a1_11 : Bool) : Option (Bool) := (domesdaylaw10_awake.f k).bind fun t173 => (if t173 = true then ((domesdayref10_Few.f k ([(⟨a1_0, a1_1, a1_2, a1_3⟩ : S23), (⟨a1_4, a1_5, a1_6, a1_7⟩ : S23), (⟨a1_8, a1_9, a1_10, a1_11⟩ : S23)] : List (S23)) 3).bind fun t174 => (domesdaylaw10_OrderTotal.j0 k a0 (!t174) a1_0 a1_1 a1_2 a1_3 a1_4 a1_5 a1_6 a1_7 a1_8 a1_9 a1_10 a1_11)) else (domesdaylaw10_OrderTotal.j0 k a0 true a1_0 a1_1 a1_2 a1_3 a1_4 a1_5 a1_6 a1_7 a1_8 a1_9 a1_10 a1_11))
theorem domesdaylaw10_OrderTotal.mono_l : ∀ k, (∀ y0 y1 y2 y3 y4 y5 y6 y7 y8 y9 y10 y11 y12 y13, LeO (domesdaylaw10_OrderTotal.j0 k y0 y1 y2 y3 y4 y5 y6 y7 y8 y9 y10 y11 y12 y13) (domesdaylaw10_OrderTotal.j0 (k + 1) y0 y1 y2 y3 y4 y5 y6 y7 y8 y9 y10 y11 y12 y13))
  | 0 => fun _ _ _ _ _ _ _ _ _ _ _ _ _ _ r h => by simp [domesdaylaw10_OrderTotal.j0] at h
  | k + 1 => by
    have ih0 := domesdaylaw10_OrderTotal.mono_l k
    · intro y0 y1 y2 y3 y4 y5 y6 y7 y8 y9 y10 y11 y12 y13
      unfold domesdaylaw10_OrderTotal.j0
      repeat' first
      | (with_reducible exact ih0 _ _ _ _ _ _ _ _ _ _ _ _ _ _)
      | (with_reducible exact domesdaylaw10_awake.mono _)
      | (with_reducible exact domesdayref10_Few.mono _ _ _)
      | (with_reducible exact order_Compare.mono _ _ _ _ _ _ _ _ _ _)
      | (with_reducible exact LeO.refl _)
      | (with_reducible exact LeO.none _)
      | (with_reducible refine LeO.ite ?_ ?_)
      | (with_reducible refine LeO.bind ?_ (fun _ => ?_))
      | exact ih0 _ _ _ _ _ _ _ _ _ _ _ _ _ _
      | exact domesdaylaw10_awake.mono _
      | exact domesdayref10_Few.mono _ _ _
      | exact order_Compare.mono _ _ _ _ _ _ _ _ _ _
      | exact LeO.none _
      | refine LeO.ite ?_ ?_
      | refine LeO.bind ?_ (fun _ => ?_)
theorem domesdaylaw10_OrderTotal.mono : ∀ a0 a1 a2 a3 a4 a5 a6 a7 a8 a9 a10 a11 a12 k, LeO (domesdaylaw10_OrderTotal.f k a0 a1 a2 a3 a4 a5 a6 a7 a8 a9 a10 a11 a12) (domesdaylaw10_OrderTotal.f (k + 1) a0 a1 a2 a3 a4 a5 a6 a7 a8 a9 a10 a11 a12) := by
  intro a0 a1 a2 a3 a4 a5 a6 a7 a8 a9 a10 a11 a12 k
  have ih0 := domesdaylaw10_OrderTotal.mono_l k
  unfold domesdaylaw10_OrderTotal.f
  repeat' first
      | (with_reducible exact ih0 _ _ _ _ _ _ _ _ _ _ _ _ _ _)
      | (with_reducible exact domesdaylaw10_awake.mono _)
      | (with_reducible exact domesdayref10_Few.mono _ _ _)
      | (with_reducible exact order_Compare.mono _ _ _ _ _ _ _ _ _ _)
      | (with_reducible exact LeO.refl _)
      | (with_reducible exact LeO.none _)
      | (with_reducible refine LeO.ite ?_ ?_)
      | (with_reducible refine LeO.bind ?_ (fun _ => ?_))
      | exact ih0 _ _ _ _ _ _ _ _ _ _ _ _ _ _
      | exact domesdaylaw10_awake.mono _
      | exact domesdayref10_Few.mono _ _ _
      | exact order_Compare.mono _ _ _ _ _ _ _ _ _ _
      | exact LeO.none _
      | refine LeO.ite ?_ ?_
      | refine LeO.bind ?_ (fun _ => ?_)
def domesdaylaw10_OrderTotal.T3 : Bool × List (List Nat × List Nat) := (true, [([], []), ([], []), ([1], [1]), ([], []), ([3], [3]), ([0, 2, 4], [0, 2, 4]), ([], []), ([], []), ([7], [7]), ([], []), ([9], [9]), ([6, 8, 10, 5], [6, 8, 10]), ([], []), ([], []), ([13], [13]), ([], []), ([15], [15]), ([12, 14, 16, 11], [12, 14, 16]), ([5, 17, 0, 1, 2, 3, 4, 5], [5]), ([11, 18, 0, 1, 2, 3, 4, 5, 6, 7, 8, 9, 10, 11, 18], [11]), ([17, 19, 0, 1, 2, 3, 4, 5, 6, 7, 8, 9, 10, 11, 12, 13, 14, 15, 16, 17, 18, 19], [17])])
def domesdaylaw10_OrderTotal.B3 : List Nat := [0, 0, 2, 0, 8, 31, 0, 0, 128, 0, 512, 2047, 0, 0, 8192, 0, 32768, 131071, 262143, 524287, 1048575]
theorem domesdaylaw10_OrderTotal.tab3 : rtab .any (opsOf Tryd.f4 3) = domesdaylaw10_OrderTotal.T3 := by kernel_rfl
theorem domesdaylaw10_OrderTotal.bits3 : waitsOk domesdaylaw10_OrderTotal.T3.2 domesdaylaw10_OrderTotal.B3 = true := by kernel_rfl
set_option maxHeartbeats 8000000 in
set_option maxRecDepth 100000 in
theorem domesdaylaw10_OrderTotal.calls (k : Nat) (a0 : Int) (a1_0 : ByteArray) (a1_1 : Int) (a1_2 : Int) (a1_3 : Bool) (a1_4 : ByteArray) (a1_5 : Int) (a1_6 : Int) (a1_7 : Bool) (a1_8 : ByteArray) (a1_9 : Int) (a1_10 : Int) (a1_11 : Bool) (r : Bool) (w : World) (h : domesdaylaw10_OrderTotal.f k a0 a1_0 a1_1 a1_2 a1_3 a1_4 a1_5 a1_6 a1_7 a1_8 a1_9 a1_10 a1_11 = some r) :
    Calls Tryd.prog 4 #[.int .i64 a0, .agg #[.string a1_0, .int .i64 a1_1, .int .i64 a1_2, .bool a1_3, .string a1_4, .int .i64 a1_5, .int .i64 a1_6, .bool a1_7, .string a1_8, .int .i64 a1_9, .int .i64 a1_10, .bool a1_11]] w fun e w' => e = .returned (.bool r) ∧ Below w.heap.size w w' := by
  have hu31 := Tryd.underlying31
  have hu23 := Tryd.underlying23
  have HB := Aside0.mk (Below.refl w.heap.size w)
  have H : ((domesdaylaw10_awake.f k).bind fun t173 => (if t173 = true then ((domesdayref10_Few.f k ([(⟨a1_0, a1_1, a1_2, a1_3⟩ : S23), (⟨a1_4, a1_5, a1_6, a1_7⟩ : S23), (⟨a1_8, a1_9, a1_10, a1_11⟩ : S23)] : List (S23)) 3).bind fun t174 => (domesdaylaw10_OrderTotal.j0 k a0 (!t174) a1_0 a1_1 a1_2 a1_3 a1_4 a1_5 a1_6 a1_7 a1_8 a1_9 a1_10 a1_11)) else (domesdaylaw10_OrderTotal.j0 k a0 true a1_0 a1_1 a1_2 a1_3 a1_4 a1_5 a1_6 a1_7 a1_8 a1_9 a1_10 a1_11))) = some r := h
  clear h
  have HC3 := Aside0.mk H
  clear H
  go_enter Tryd.func4, Tryd.ntmps4
  go_upto_region 1 with (first | ((with_reducible refine gate_dst (N := 3) rfl ?_); refine box_event ?hg (N := 3) ?hd (cs := #[.string a1_0, .int .i64 a1_1, .int .i64 a1_2, .bool a1_3, .string a1_4, .int .i64 a1_5, .int .i64 a1_6, .bool a1_7, .string a1_8, .int .i64 a1_9, .int .i64 a1_10, .bool a1_11]) (t := 31) ?hr ?_; (case hd => rfl); (case hg => rfl); (case hr => first | (go_simp; done) | (go_simp; rfl)); intro gb172 hg w4 hbox hb; have n0_ := Aside0.mk (below_step (by repeat (first | (with_reducible first | exact HB.out | apply below_alloc | apply pw_below_drewN | apply below_drew1) | exact HB.out)) hb); have n1_ := Aside0.mk (hbox); have n2_ := Aside0.mk ((by rw [hg]; exact (below_size (by repeat (first | (with_reducible first | exact HB.out | apply below_alloc | apply pw_below_drewN | apply below_drew1) | exact HB.out))) : w.heap.size ≤ gb172)); have n3_ := Aside0.mk ((by rw [hg]; exact (below_size (by repeat (first | (with_reducible first | exact HB.out | apply below_alloc | apply pw_below_drewN | apply below_drew1) | exact HB.out))) : w.heap.size ≤ gb172)); clear HB; have HB := n0_; have BK172 := n1_; have GW172 := n2_; have GE172 := n3_; clear n0_ n1_ n2_ n3_; clear hb hbox hg))
  (try simp only [Act.put, List.setIfInBounds_toArray, List.set_cons_zero, List.set_cons_succ])
  go_cut [14] (fun v14 wc => ∃ (kq : Nat) (x14_2 : Bool), v14 = .bool x14_2 ∧ Aside0 (domesdaylaw10_OrderTotal.j0 kq a0 x14_2 a1_0 a1_1 a1_2 a1_3 a1_4 a1_5 a1_6 a1_7 a1_8 a1_9 a1_10 a1_11 = some r) ∧ Aside0 (kq ≤ k) ∧ Aside0 (wc.heap[gb172]? = some (.cells #[.string a1_0, .int .i64 a1_1, .int .i64 a1_2, .bool a1_3, .string a1_4, .int .i64 a1_5, .int .i64 a1_6, .bool a1_7, .string a1_8, .int .i64 a1_9, .int .i64 a1_10, .bool a1_11] 31 (0, 0))) ∧ Aside0 (Below w.heap.size w wc))
  case first =>
    have H := HC3.out
    clear HC3
    replace H := Option.bind_eq_some_iff.mp H
    obtain ⟨t173, A50, H⟩ := H
    replace H : (if t173 = true then ((domesdayref10_Few.f k ([(⟨a1_0, a1_1, a1_2, a1_3⟩ : S23), (⟨a1_4, a1_5, a1_6, a1_7⟩ : S23), (⟨a1_8, a1_9, a1_10, a1_11⟩ : S23)] : List (S23)) 3).bind fun t174 => (domesdaylaw10_OrderTotal.j0 k a0 (!t174) a1_0 a1_1 a1_2 a1_3 a1_4 a1_5 a1_6 a1_7 a1_8 a1_9 a1_10 a1_11)) else (domesdaylaw10_OrderTotal.j0 k a0 true a1_0 a1_1 a1_2 a1_3 a1_4 a1_5 a1_6 a1_7 a1_8 a1_9 a1_10 a1_11)) = some r := H
    have A5 := Aside0.mk A50
    clear A50
    by_cases c6 : t173 = true
    · subst c6
      have H1 : ((domesdayref10_Few.f k ([(⟨a1_0, a1_1, a1_2, a1_3⟩ : S23), (⟨a1_4, a1_5, a1_6, a1_7⟩ : S23), (⟨a1_8, a1_9, a1_10, a1_11⟩ : S23)] : List (S23)) 3).bind fun t174 => (domesdaylaw10_OrderTotal.j0 k a0 (!t174) a1_0 a1_1 a1_2 a1_3 a1_4 a1_5 a1_6 a1_7 a1_8 a1_9 a1_10 a1_11)) = some r := by rw [if_pos rfl] at H; exact H
      clear H
      have H := H1
      clear H1
      replace H := Option.bind_eq_some_iff.mp H
      obtain ⟨t174, A70, H⟩ := H
      replace H : (domesdaylaw10_OrderTotal.j0 k a0 (!t174) a1_0 a1_1 a1_2 a1_3 a1_4 a1_5 a1_6 a1_7 a1_8 a1_9 a1_10 a1_11) = some r := H
      have A7 := Aside0.mk A70
      clear A70
      have H' := Aside0.mk H
      clear H
      go_wp2_with (first | ((with_reducible refine gate_callee (f := 8) rfl ?_); refine goesL_ (some 8) rfl rfl Tryd.func8 (by kernel_rfl) rfl #[] rfl (by (try simp only [List.map_toArray, List.map_cons, List.map_nil]); first | done | rfl | (simp only [List.length_drop, List.length_take]; rfl)) ?_; (with_reducible refine (domesdaylaw10_awake.calls k  true _ A5.out).mono ?_); rintro e w8 ⟨rfl, hb⟩; refine ⟨_, rfl, ?_⟩; have n0_ := Aside0.mk (blk_below (g := gb172) (o := .cells #[.string a1_0, .int .i64 a1_1, .int .i64 a1_2, .bool a1_3, .string a1_4, .int .i64 a1_5, .int .i64 a1_6, .bool a1_7, .string a1_8, .int .i64 a1_9, .int .i64 a1_10, .bool a1_11] 31 (0, 0)) (by (with_reducible repeat (first | refine blk_drewN ?_ _ | refine blk_drew ?_ | refine blk_alloc ?_ _)); exact BK172.out) hb); have n1_ := Aside0.mk (below_step (by repeat (first | (with_reducible first | exact HB.out | apply below_alloc | apply pw_below_drewN | apply below_drew1 | refine below_set ?_ GE172.out) | exact HB.out)) hb); clear BK172; clear HB; have BK172 := n0_; have HB := n1_; clear n0_ n1_; (try clear hb); (try clear hb2); (try clear hk); (try clear hi)) | (go_at_call 9; refine calls_of_args (args' := #[.slice (some ⟨gb172, 0, none⟩) ([(⟨a1_0, a1_1, a1_2, a1_3⟩ : S23), (⟨a1_4, a1_5, a1_6, a1_7⟩ : S23), (⟨a1_8, a1_9, a1_10, a1_11⟩ : S23)] : List (S23)).length 3, .int .i64 3]) (by first | rfl) ?_; (with_reducible refine (domesdayref10_Few.calls k _ _ ([(⟨a1_0, a1_1, a1_2, a1_3⟩ : S23), (⟨a1_4, a1_5, a1_6, a1_7⟩ : S23), (⟨a1_8, a1_9, a1_10, a1_11⟩ : S23)] : List (S23)) 3 t174 _ ?side1 ?side2 A7.out).mono ?_); (case side1 => exact C_arr31 (by (with_reducible repeat (first | refine blk_drewN ?_ _ | refine blk_drew ?_ | refine blk_alloc ?_ _)); exact BK172.out)); (case side2 => exact Nat.le_refl _); rintro e w' ⟨rfl, ⟨nd, rfl⟩⟩))
      go_meet
      case rel => exact ⟨_, (!t174), (by first | rfl | (simp; done) | (simp [*]; done)), H', ⟨by first | omega | exact Nat.le_refl _⟩, ⟨by (with_reducible repeat (first | refine blk_drewN ?_ _ | refine blk_drew ?_ | refine blk_alloc ?_ _)); exact BK172.out⟩, ⟨by repeat (first | (with_reducible first | exact HB.out | apply below_alloc | apply pw_below_drewN | apply below_drew1 | refine below_set ?_ GE172.out) | exact HB.out)⟩⟩
    · replace c6 := Bool.eq_false_iff.mpr c6
      subst c6
      have H1 : (domesdaylaw10_OrderTotal.j0 k a0 true a1_0 a1_1 a1_2 a1_3 a1_4 a1_5 a1_6 a1_7 a1_8 a1_9 a1_10 a1_11) = some r := by rw [if_neg (show ¬ (false = true) by decide)] at H; exact H
      clear H
      have H := H1
      clear H1
      have H' := Aside0.mk H
      clear H
      go_wp2_with (first | ((with_reducible refine gate_callee (f := 8) rfl ?_); refine goesL_ (some 8) rfl rfl Tryd.func8 (by kernel_rfl) rfl #[] rfl (by (try simp only [List.map_toArray, List.map_cons, List.map_nil]); first | done | rfl | (simp only [List.length_drop, List.length_take]; rfl)) ?_; (with_reducible refine (domesdaylaw10_awake.calls k  false _ A5.out).mono ?_); rintro e w9 ⟨rfl, hb⟩; refine ⟨_, rfl, ?_⟩; have n0_ := Aside0.mk (blk_below (g := gb172) (o := .cells #[.string a1_0, .int .i64 a1_1, .int .i64 a1_2, .bool a1_3, .string a1_4, .int .i64 a1_5, .int .i64 a1_6, .bool a1_7, .string a1_8, .int .i64 a1_9, .int .i64 a1_10, .bool a1_11] 31 (0, 0)) (by (with_reducible repeat (first | refine blk_drewN ?_ _ | refine blk_drew ?_ | refine blk_alloc ?_ _)); exact BK172.out) hb); have n1_ := Aside0.mk (below_step (by repeat (first | (with_reducible first | exact HB.out | apply below_alloc | apply pw_below_drewN | apply below_drew1 | refine below_set ?_ GE172.out) | exact HB.out)) hb); clear BK172; clear HB; have BK172 := n0_; have HB := n1_; clear n0_ n1_; (try clear hb); (try clear hb2); (try clear hk); (try clear hi)))
      go_meet
      case rel => exact ⟨_, (true), (by first | rfl | (simp; done) | (simp [*]; done)), H', ⟨by first | omega | exact Nat.le_refl _⟩, ⟨by (with_reducible repeat (first | refine blk_drewN ?_ _ | refine blk_drew ?_ | refine blk_alloc ?_ _)); exact BK172.out⟩, ⟨by repeat (first | (with_reducible first | exact HB.out | apply below_alloc | apply pw_below_drewN | apply below_drew1 | refine below_set ?_ GE172.out) | exact HB.out)⟩⟩
  case rest =>
    clear HC3
    try clear p2
    try clear c4
    try clear c6
    try clear c8
    obtain ⟨kq, x14_2, rfl, HA, HJ2, BK172, HB⟩ := hcut
    cases kq with
    | zero => exact absurd HA.out (by simp [domesdaylaw10_OrderTotal.j0])
    | succ kj2 =>
      have H := HA.out
      clear HA
      simp only [domesdaylaw10_OrderTotal.j0] at H
      by_cases c10 : x14_2 = true
      · subst c10
        have H1 : ((domesdaylaw10_awake.f kj2).bind fun t175 => (some t175)) = some r := by rw [if_pos rfl] at H; exact H
        clear H
        have H := H1
        clear H1
        replace H := Option.bind_eq_some_iff.mp H
        obtain ⟨t175, A110, H⟩ := H
        replace H : (some t175) = some r := H
        have A11 := Aside0.mk A110
        clear A110
        obtain rfl := Option.some.inj H
        go_wp2_with (first | ((with_reducible refine gate_callee (f := 8) rfl ?_); refine goesL_ (some 15) rfl rfl Tryd.func8 (by kernel_rfl) rfl #[] rfl (by (try simp only [List.map_toArray, List.map_cons, List.map_nil]); first | done | rfl | (simp only [List.length_drop, List.length_take]; rfl)) ?_; (with_reducible refine (domesdaylaw10_awake.calls kj2  t175 _ A11.out).mono ?_); rintro e w12 ⟨rfl, hb⟩; refine ⟨_, rfl, ?_⟩; have n0_ := Aside0.mk (blk_below (g := gb172) (o := .cells #[.string a1_0, .int .i64 a1_1, .int .i64 a1_2, .bool a1_3, .string a1_4, .int .i64 a1_5, .int .i64 a1_6, .bool a1_7, .string a1_8, .int .i64 a1_9, .int .i64 a1_10, .bool a1_11] 31 (0, 0)) (by (with_reducible repeat (first | refine blk_drewN ?_ _ | refine blk_drew ?_ | refine blk_alloc ?_ _)); exact BK172.out) hb); have n1_ := Aside0.mk (below_step (by repeat (first | (with_reducible first | exact HB.out | apply below_alloc | apply pw_below_drewN | apply below_drew1 | refine below_set ?_ GE172.out) | exact HB.out)) hb); clear BK172; clear HB; have BK172 := n0_; have HB := n1_; clear n0_ n1_; (try clear hb); (try clear hb2); (try clear hk); (try clear hi)))
        go_ret
        exact ⟨by first | rfl | (simp [errW_none, errW_some] <;> rfl) | (simp [*, errW_none, errW_some] <;> rfl), by repeat (first | (with_reducible first | exact HB.out | apply below_alloc | apply pw_below_drewN | apply below_drew1 | refine below_set ?_ GE172.out) | exact HB.out)⟩
      · replace c10 := Bool.eq_false_iff.mpr c10
        subst c10
        have H1 : ((order_Compare.f kj2 a0 a1_0 a1_1 a1_2 a1_3 a1_4 a1_5 a1_6 a1_7).bind fun t176 => ((order_Compare.f kj2 a0 a1_4 a1_5 a1_6 a1_7 a1_8 a1_9 a1_10 a1_11).bind fun t177 => ((order_Compare.f kj2 a0 a1_0 a1_1 a1_2 a1_3 a1_8 a1_9 a1_10 a1_11).bind fun t178 => ((order_Compare.f kj2 a0 a1_4 a1_5 a1_6 a1_7 a1_0 a1_1 a1_2 a1_3).bind fun t179 => (if t179 = (wrap64 (-t176)) then ((order_Compare.f kj2 a0 a1_0 a1_1 a1_2 a1_3 a1_0 a1_1 a1_2 a1_3).bind fun t180 => (if t180 = 0 then (if t176 > 0 then (some true) else (if t177 > 0 then (some true) else (some (decide (t178 ≤ 0))))) else (none))) else (none)))))) = some r := by rw [if_neg (show ¬ (false = true) by decide)] at H; exact H
        clear H
        have H := H1
        clear H1
        replace H := Option.bind_eq_some_iff.mp H
        obtain ⟨t176, A130, H⟩ := H
        replace H : ((order_Compare.f kj2 a0 a1_4 a1_5 a1_6 a1_7 a1_8 a1_9 a1_10 a1_11).bind fun t177 => ((order_Compare.f kj2 a0 a1_0 a1_1 a1_2 a1_3 a1_8 a1_9 a1_10 a1_11).bind fun t178 => ((order_Compare.f kj2 a0 a1_4 a1_5 a1_6 a1_7 a1_0 a1_1 a1_2 a1_3).bind fun t179 => (if t179 = (wrap64 (-t176)) then ((order_Compare.f kj2 a0 a1_0 a1_1 a1_2 a1_3 a1_0 a1_1 a1_2 a1_3).bind fun t180 => (if t180 = 0 then (if t176 > 0 then (some true) else (if t177 > 0 then (some true) else (some (decide (t178 ≤ 0))))) else (none))) else (none))))) = some r := H
        have A13 := Aside0.mk A130
        clear A130
        replace H := Option.bind_eq_some_iff.mp H
        obtain ⟨t177, A140, H⟩ := H
        replace H : ((order_Compare.f kj2 a0 a1_0 a1_1 a1_2 a1_3 a1_8 a1_9 a1_10 a1_11).bind fun t178 => ((order_Compare.f kj2 a0 a1_4 a1_5 a1_6 a1_7 a1_0 a1_1 a1_2 a1_3).bind fun t179 => (if t179 = (wrap64 (-t176)) then ((order_Compare.f kj2 a0 a1_0 a1_1 a1_2 a1_3 a1_0 a1_1 a1_2 a1_3).bind fun t180 => (if t180 = 0 then (if t176 > 0 then (some true) else (if t177 > 0 then (some true) else (some (decide (t178 ≤ 0))))) else (none))) else (none)))) = some r := H
        have A14 := Aside0.mk A140
        clear A140
        replace H := Option.bind_eq_some_iff.mp H
        obtain ⟨t178, A150, H⟩ := H
        replace H : ((order_Compare.f kj2 a0 a1_4 a1_5 a1_6 a1_7 a1_0 a1_1 a1_2 a1_3).bind fun t179 => (if t179 = (wrap64 (-t176)) then ((order_Compare.f kj2 a0 a1_0 a1_1 a1_2 a1_3 a1_0 a1_1 a1_2 a1_3).bind fun t180 => (if t180 = 0 then (if t176 > 0 then (some true) else (if t177 > 0 then (some true) else (some (decide (t178 ≤ 0))))) else (none))) else (none))) = some r := H
        have A15 := Aside0.mk A150
        clear A150
        replace H := Option.bind_eq_some_iff.mp H
        obtain ⟨t179, A160, H⟩ := H
        replace H : (if t179 = (wrap64 (-t176)) then ((order_Compare.f kj2 a0 a1_0 a1_1 a1_2 a1_3 a1_0 a1_1 a1_2 a1_3).bind fun t180 => (if t180 = 0 then (if t176 > 0 then (some true) else (if t177 > 0 then (some true) else (some (decide (t178 ≤ 0))))) else (none))) else (none)) = some r := H
        have A16 := Aside0.mk A160
        clear A160
        by_cases c17 : t179 = (wrap64 (-t176))
        · rw [if_pos c17] at H
          have c17b0 : (t179 == (wrap64 (-t176))) = true := beq_iff_eq.mpr c17
          have c17b1 : (t179 != (wrap64 (-t176))) = false := bne_eq_false_iff_eq.mpr c17
          clear c17
          replace H := Option.bind_eq_some_iff.mp H
          obtain ⟨t180, A180, H⟩ := H
          replace H : (if t180 = 0 then (if t176 > 0 then (some true) else (if t177 > 0 then (some true) else (some (decide (t178 ≤ 0))))) else (none)) = some r := H
          have A18 := Aside0.mk A180
          clear A180
          by_cases c19 : t180 = 0
          · rw [if_pos c19] at H
            have c19b0 : (t180 == 0) = true := beq_iff_eq.mpr c19
            have c19b1 : (t180 != 0) = false := bne_eq_false_iff_eq.mpr c19
            clear c19
            by_cases c20 : t176 > 0
            · rw [if_pos c20] at H
              have c20b0 : decide (0 < t176) = true := decide_eq_true c20
              clear c20
              obtain rfl := Option.some.inj H
              try go_wp2
              have n0_ := Aside0.mk (blk_drew BK172.out)
              have n1_ := Aside0.mk (below_drew1 HB.out)
              clear BK172
              clear HB
              have BK172 := n0_
              have HB := n1_
              clear n0_ n1_
              refine start_ (n := 21) (S := fun w' => w'.cell? ⟨gb172, 0, none⟩ = some (.string a1_0) ∧ w'.cell? ⟨gb172, 1, none⟩ = some (.int .i64 a1_1) ∧ w'.cell? ⟨gb172, 2, none⟩ = some (.int .i64 a1_2) ∧ w'.cell? ⟨gb172, 3, none⟩ = some (.bool a1_3) ∧ w'.cell? ⟨gb172, 4, none⟩ = some (.string a1_4) ∧ w'.cell? ⟨gb172, 5, none⟩ = some (.int .i64 a1_5) ∧ w'.cell? ⟨gb172, 6, none⟩ = some (.int .i64 a1_6) ∧ w'.cell? ⟨gb172, 7, none⟩ = some (.bool a1_7) ∧ w'.cell? ⟨gb172, 8, none⟩ = some (.string a1_8) ∧ w'.cell? ⟨gb172, 9, none⟩ = some (.int .i64 a1_9) ∧ w'.cell? ⟨gb172, 10, none⟩ = some (.int .i64 a1_10) ∧ w'.cell? ⟨gb172, 11, none⟩ = some (.bool a1_11)) (ds := []) #[false, false, false, false, false, false, false, false, false, false, false, false, false, false, false, false, false, false, false, false, false] (by kernel_rfl) rfl rfl ⟨(blk_cell BK172.out 0).trans rfl, (blk_cell BK172.out 1).trans rfl, (blk_cell BK172.out 2).trans rfl, (blk_cell BK172.out 3).trans rfl, (blk_cell BK172.out 4).trans rfl, (blk_cell BK172.out 5).trans rfl, (blk_cell BK172.out 6).trans rfl, (blk_cell BK172.out 7).trans rfl, (blk_cell BK172.out 8).trans rfl, (blk_cell BK172.out 9).trans rfl, (blk_cell BK172.out 10).trans rfl, (blk_cell BK172.out 11).trans rfl⟩ (fun hHeld => ?_); refine with_tabW domesdaylaw10_OrderTotal.tab3 domesdaylaw10_OrderTotal.bits3 (fun HT_ HW_ => ?_)
              generalize wc.drew = w21 at BK172 HB hHeld ⊢
              refine pure_ (i := 0) (N := some 16) (v := ?_) (a' := ?_) #[true, false, false, false, false, false, false, false, false, false, false, false, false, false, false, false, false, false, false, false, false] rfl rfl (any_of HT_.out (by kernel_rfl)) (fun _ _ _ h => h) (Or.inl ⟨by rfl, ?_⟩) ?_ ?_
              rotate_left
              · intro w'
                go_simp
                with_reducible rfl
              rotate_left
              · simp only [Act.put, List.setIfInBounds_toArray, List.set_cons_zero, List.set_cons_succ, i64_w, i32_w]
                rfl
              refine pure_ (i := 1) (N := some 17) (v := ?_) (a' := ?_) #[true, true, false, false, false, false, false, false, false, false, false, false, false, false, false, false, false, false, false, false, false] rfl rfl (any_of HT_.out (by kernel_rfl)) (fun _ _ _ h => h) (Or.inl ⟨by rfl, ?_⟩) ?_ ?_
              rotate_left
              · intro w'
                go_simp
                with_reducible rfl
              rotate_left
              · simp only [Act.put, List.setIfInBounds_toArray, List.set_cons_zero, List.set_cons_succ, i64_w, i32_w]
                rfl
              refine pure_ (i := 3) (N := some 19) (v := ?_) (a' := ?_) #[true, true, false, true, false, false, false, false, false, false, false, false, false, false, false, false, false, false, false, false, false] rfl rfl (any_of HT_.out (by kernel_rfl)) (fun _ _ _ h => h) (Or.inl ⟨by rfl, ?_⟩) ?_ ?_
              rotate_left
              · intro w'
                go_simp
                with_reducible rfl
              rotate_left
              · simp only [Act.put, List.setIfInBounds_toArray, List.set_cons_zero, List.set_cons_succ, i64_w, i32_w]
                rfl
              refine pure_ (i := 6) (N := some 22) (v := ?_) (a' := ?_) #[true, true, false, true, false, false, true, false, false, false, false, false, false, false, false, false, false, false, false, false, false] rfl rfl (any_of HT_.out (by kernel_rfl)) (fun _ _ _ h => h) (Or.inl ⟨by rfl, ?_⟩) ?_ ?_
              rotate_left
              · intro w'
                go_simp
                with_reducible rfl
              rotate_left
              · simp only [Act.put, List.setIfInBounds_toArray, List.set_cons_zero, List.set_cons_succ, i64_w, i32_w]
                rfl
              refine pure_ (i := 7) (N := some 23) (v := ?_) (a' := ?_) #[true, true, false, true, false, false, true, true, false, false, false, false, false, false, false, false, false, false, false, false, false] rfl rfl (any_of HT_.out (by kernel_rfl)) (fun _ _ _ h => h) (Or.inl ⟨by rfl, ?_⟩) ?_ ?_
              rotate_left
              · intro w'
                go_simp
                with_reducible rfl
              rotate_left
              · simp only [Act.put, List.setIfInBounds_toArray, List.set_cons_zero, List.set_cons_succ, i64_w, i32_w]
                rfl
              refine pure_ (i := 9) (N := some 25) (v := ?_) (a' := ?_) #[true, true, false, true, false, false, true, true, false, true, false, false, false, false, false, false, false, false, false, false, false] rfl rfl (any_of HT_.out (by kernel_rfl)) (fun _ _ _ h => h) (Or.inl ⟨by rfl, ?_⟩) ?_ ?_
              rotate_left
              · intro w'
                go_simp
                with_reducible rfl
              rotate_left
              · simp only [Act.put, List.setIfInBounds_toArray, List.set_cons_zero, List.set_cons_succ, i64_w, i32_w]
                rfl
              refine pure_ (i := 12) (N := some 28) (v := ?_) (a' := ?_) #[true, true, false, true, false, false, true, true, false, true, false, false, true, false, false, false, false, false, false, false, false] rfl rfl (any_of HT_.out (by kernel_rfl)) (fun _ _ _ h => h) (Or.inl ⟨by rfl, ?_⟩) ?_ ?_
              rotate_left
              · intro w'
                go_simp
                with_reducible rfl
              rotate_left
              · simp only [Act.put, List.setIfInBounds_toArray, List.set_cons_zero, List.set_cons_succ, i64_w, i32_w]
                rfl
              refine pure_ (i := 13) (N := some 29) (v := ?_) (a' := ?_) #[true, true, false, true, false, false, true, true, false, true, false, false, true, true, false, false, false, false, false, false, false] rfl rfl (any_of HT_.out (by kernel_rfl)) (fun _ _ _ h => h) (Or.inl ⟨by rfl, ?_⟩) ?_ ?_
              rotate_left
              · intro w'
                go_simp
                with_reducible rfl
              rotate_left
              · simp only [Act.put, List.setIfInBounds_toArray, List.set_cons_zero, List.set_cons_succ, i64_w, i32_w]
                rfl
              refine pure_ (i := 15) (N := some 31) (v := ?_) (a' := ?_) #[true, true, false, true, false, false, true, true, false, true, false, false, true, true, false, true, false, false, false, false, false] rfl rfl (any_of HT_.out (by kernel_rfl)) (fun _ _ _ h => h) (Or.inl ⟨by rfl, ?_⟩) ?_ ?_
              rotate_left
              · intro w'
                go_simp
                with_reducible rfl
              rotate_left
              · simp only [Act.put, List.setIfInBounds_toArray, List.set_cons_zero, List.set_cons_succ, i64_w, i32_w]
                rfl
              refine take_ (i := 2) (N := some 18) (v := ?_) (a' := ?_) #[true, true, true, true, false, false, true, true, false, true, false, false, true, true, false, true, false, false, false, false, false] rfl rfl (take_ofW HT_.out HW_.out (by kernel_rfl)) (fun _ _ _ h => h) (Or.inl ⟨by rfl, ?_⟩) hHeld ?_ ?_
              rotate_left
              · rintro w' ⟨s0, s1, s2, s3, s4, s5, s6, s7, s8, s9, s10, s11⟩
                go_simp
                with_reducible rfl
              rotate_left
              · simp only [Act.put, List.setIfInBounds_toArray, List.set_cons_zero, List.set_cons_succ, i64_w, i32_w]
                rfl
              refine take_ (i := 4) (N := some 20) (v := ?_) (a' := ?_) #[true, true, true, true, true, false, true, true, false, true, false, false, true, true, false, true, false, false, false, false, false] rfl rfl (take_ofW HT_.out HW_.out (by kernel_rfl)) (fun _ _ _ h => h) (Or.inl ⟨by rfl, ?_⟩) hHeld ?_ ?_
              rotate_left
              · rintro w' ⟨s0, s1, s2, s3, s4, s5, s6, s7, s8, s9, s10, s11⟩
                go_simp
                with_reducible rfl
              rotate_left
              · simp only [Act.put, List.setIfInBounds_toArray, List.set_cons_zero, List.set_cons_succ, i64_w, i32_w]
                rfl
              refine take_ (i := 8) (N := some 24) (v := ?_) (a' := ?_) #[true, true, true, true, true, false, true, true, true, true, false, false, true, true, false, true, false, false, false, false, false] rfl rfl (take_ofW HT_.out HW_.out (by kernel_rfl)) (fun _ _ _ h => h) (Or.inl ⟨by rfl, ?_⟩) hHeld ?_ ?_
              rotate_left
              · rintro w' ⟨s0, s1, s2, s3, s4, s5, s6, s7, s8, s9, s10, s11⟩
                go_simp
                with_reducible rfl
              rotate_left
              · simp only [Act.put, List.setIfInBounds_toArray, List.set_cons_zero, List.set_cons_succ, i64_w, i32_w]
                rfl
              refine take_ (i := 10) (N := some 26) (v := ?_) (a' := ?_) #[true, true, true, true, true, false, true, true, true, true, true, false, true, true, false, true, false, false, false, false, false] rfl rfl (take_ofW HT_.out HW_.out (by kernel_rfl)) (fun _ _ _ h => h) (Or.inl ⟨by rfl, ?_⟩) hHeld ?_ ?_
              rotate_left
              · rintro w' ⟨s0, s1, s2, s3, s4, s5, s6, s7, s8, s9, s10, s11⟩
                go_simp
                with_reducible rfl
              rotate_left
              · simp only [Act.put, List.setIfInBounds_toArray, List.set_cons_zero, List.set_cons_succ, i64_w, i32_w]
                rfl
              refine take_ (i := 14) (N := some 30) (v := ?_) (a' := ?_) #[true, true, true, true, true, false, true, true, true, true, true, false, true, true, true, true, false, false, false, false, false] rfl rfl (take_ofW HT_.out HW_.out (by kernel_rfl)) (fun _ _ _ h => h) (Or.inl ⟨by rfl, ?_⟩) hHeld ?_ ?_
              rotate_left
              · rintro w' ⟨s0, s1, s2, s3, s4, s5, s6, s7, s8, s9, s10, s11⟩
                go_simp
                with_reducible rfl
              rotate_left
              · simp only [Act.put, List.setIfInBounds_toArray, List.set_cons_zero, List.set_cons_succ, i64_w, i32_w]
                rfl
              refine take_ (i := 16) (N := some 32) (v := ?_) (a' := ?_) #[true, true, true, true, true, false, true, true, true, true, true, false, true, true, true, true, true, false, false, false, false] rfl rfl (take_ofW HT_.out HW_.out (by kernel_rfl)) (fun _ _ _ h => h) (Or.inl ⟨by rfl, ?_⟩) hHeld ?_ ?_
              rotate_left
              · rintro w' ⟨s0, s1, s2, s3, s4, s5, s6, s7, s8, s9, s10, s11⟩
                go_simp
                with_reducible rfl
              rotate_left
              · simp only [Act.put, List.setIfInBounds_toArray, List.set_cons_zero, List.set_cons_succ, i64_w, i32_w]
                rfl
              refine one_ (i := 5) (N := some 21) #[true, true, true, true, true, true, true, true, true, true, true, false, true, true, true, true, true, false, false, false, false] rfl rfl (one_of HT_.out (by kernel_rfl)) (by decide) (fun K hK => ?_)
              refine goes_ Tryd.func10 (by kernel_rfl) rfl #[.int .i64 a0, .agg #[.string a1_0, .int .i64 a1_1, .int .i64 a1_2, .bool a1_3], .agg #[.string a1_4, .int .i64 a1_5, .int .i64 a1_6, .bool a1_7]] (by rfl) rfl rfl (by (try simp only [List.map_toArray, List.map_cons, List.map_nil]); first | done | rfl | (simp only [List.length_drop, List.length_take]; rfl)) ?_
              with_reducible refine (order_Compare.calls kj2 a0 a1_0 a1_1 a1_2 a1_3 a1_4 a1_5 a1_6 a1_7 t176 _ A13.out).mono ?_
              rintro e w22 ⟨rfl, hb⟩
              refine ⟨_, rfl, ?_⟩
              have n0_ := Aside0.mk (blk_below (g := gb172) (o := .cells #[.string a1_0, .int .i64 a1_1, .int .i64 a1_2, .bool a1_3, .string a1_4, .int .i64 a1_5, .int .i64 a1_6, .bool a1_7, .string a1_8, .int .i64 a1_9, .int .i64 a1_10, .bool a1_11] 31 (0, 0)) (by (with_reducible repeat (first | refine blk_drewN ?_ _ | refine blk_drew ?_ | refine blk_alloc ?_ _)); exact BK172.out) hb)
              have n1_ := Aside0.mk (below_step (by repeat (first | (with_reducible first | exact HB.out | apply below_alloc | apply pw_below_drewN | apply below_drew1 | refine below_set ?_ GE172.out) | exact HB.out)) hb)
              clear BK172
              clear HB
              have BK172 := n0_
              have HB := n1_
              clear n0_ n1_
              (try clear hb)
              (try clear hb2)
              (try clear hk)
              (try clear hi)
              refine hK.out _ _ ⟨(blk_cell BK172.out 0).trans rfl, (blk_cell BK172.out 1).trans rfl, (blk_cell BK172.out 2).trans rfl, (blk_cell BK172.out 3).trans rfl, (blk_cell BK172.out 4).trans rfl, (blk_cell BK172.out 5).trans rfl, (blk_cell BK172.out 6).trans rfl, (blk_cell BK172.out 7).trans rfl, (blk_cell BK172.out 8).trans rfl, (blk_cell BK172.out 9).trans rfl, (blk_cell BK172.out 10).trans rfl, (blk_cell BK172.out 11).trans rfl⟩ (fun hHeld => ?_)
              clear hK K
              refine norm_ (a' := ?_) ?_ ?_
              rotate_left
              · show Act.put _ (some 21) _ = _
                simp only [Act.put, List.setIfInBounds_toArray, List.set_cons_zero, List.set_cons_succ, i64_w, i32_w]
                rfl
              refine one_ (i := 11) (N := some 27) #[true, true, true, true, true, true, true, true, true, true, true, true, true, true, true, true, true, false, false, false, false] rfl rfl (one_of HT_.out (by kernel_rfl)) (by decide) (fun K hK => ?_)
              refine goes_ Tryd.func10 (by kernel_rfl) rfl #[.int .i64 a0, .agg #[.string a1_4, .int .i64 a1_5, .int .i64 a1_6, .bool a1_7], .agg #[.string a1_8, .int .i64 a1_9, .int .i64 a1_10, .bool a1_11]] (by rfl) rfl rfl (by (try simp only [List.map_toArray, List.map_cons, List.map_nil]); first | done | rfl | (simp only [List.length_drop, List.length_take]; rfl)) ?_
              with_reducible refine (order_Compare.calls kj2 a0 a1_4 a1_5 a1_6 a1_7 a1_8 a1_9 a1_10 a1_11 t177 _ A14.out).mono ?_
              rintro e w23 ⟨rfl, hb⟩
              refine ⟨_, rfl, ?_⟩
              have n0_ := Aside0.mk (blk_below (g := gb172) (o := .cells #[.string a1_0, .int .i64 a1_1, .int .i64 a1_2, .bool a1_3, .string a1_4, .int .i64 a1_5, .int .i64 a1_6, .bool a1_7, .string a1_8, .int .i64 a1_9, .int .i64 a1_10, .bool a1_11] 31 (0, 0)) (by (with_reducible repeat (first | refine blk_drewN ?_ _ | refine blk_drew ?_ | refine blk_alloc ?_ _)); exact BK172.out) hb)
              have n1_ := Aside0.mk (below_step (by repeat (first | (with_reducible first | exact HB.out | apply below_alloc | apply pw_below_drewN | apply below_drew1 | refine below_set ?_ GE172.out) | exact HB.out)) hb)
              clear BK172
              clear HB
              have BK172 := n0_
              have HB := n1_
              clear n0_ n1_
              (try clear hb)
              (try clear hb2)
              (try clear hk)
              (try clear hi)
              refine hK.out _ _ ⟨(blk_cell BK172.out 0).trans rfl, (blk_cell BK172.out 1).trans rfl, (blk_cell BK172.out 2).trans rfl, (blk_cell BK172.out 3).trans rfl, (blk_cell BK172.out 4).trans rfl, (blk_cell BK172.out 5).trans rfl, (blk_cell BK172.out 6).trans rfl, (blk_cell BK172.out 7).trans rfl, (blk_cell BK172.out 8).trans rfl, (blk_cell BK172.out 9).trans rfl, (blk_cell BK172.out 10).trans rfl, (blk_cell BK172.out 11).trans rfl⟩ (fun hHeld => ?_)
              clear hK K
              refine norm_ (a' := ?_) ?_ ?_
              rotate_left
              · show Act.put _ (some 27) _ = _
                simp only [Act.put, List.setIfInBounds_toArray, List.set_cons_zero, List.set_cons_succ, i64_w, i32_w]
                rfl
              refine one_ (i := 17) (N := some 33) #[true, true, true, true, true, true, true, true, true, true, true, true, true, true, true, true, true, true, false, false, false] rfl rfl (one_of HT_.out (by kernel_rfl)) (by decide) (fun K hK => ?_)
              refine goes_ Tryd.func10 (by kernel_rfl) rfl #[.int .i64 a0, .agg #[.string a1_0, .int .i64 a1_1, .int .i64 a1_2, .bool a1_3], .agg #[.string a1_8, .int .i64 a1_9, .int .i64 a1_10, .bool a1_11]] (by rfl) rfl rfl (by (try simp only [List.map_toArray, List.map_cons, List.map_nil]); first | done | rfl | (simp only [List.length_drop, List.length_take]; rfl)) ?_
              with_reducible refine (order_Compare.calls kj2 a0 a1_0 a1_1 a1_2 a1_3 a1_8 a1_9 a1_10 a1_11 t178 _ A15.out).mono ?_
              rintro e w24 ⟨rfl, hb⟩
              refine ⟨_, rfl, ?_⟩
              have n0_ := Aside0.mk (blk_below (g := gb172) (o := .cells #[.string a1_0, .int .i64 a1_1, .int .i64 a1_2, .bool a1_3, .string a1_4, .int .i64 a1_5, .int .i64 a1_6, .bool a1_7, .string a1_8, .int .i64 a1_9, .int .i64 a1_10, .bool a1_11] 31 (0, 0)) (by (with_reducible repeat (first | refine blk_drewN ?_ _ | refine blk_drew ?_ | refine blk_alloc ?_ _)); exact BK172.out) hb)
              have n1_ := Aside0.mk (below_step (by repeat (first | (with_reducible first | exact HB.out | apply below_alloc | apply pw_below_drewN | apply below_drew1 | refine below_set ?_ GE172.out) | exact HB.out)) hb)
              clear BK172
              clear HB
              have BK172 := n0_
              have HB := n1_
              clear n0_ n1_
              (try clear hb)
              (try clear hb2)
              (try clear hk)
              (try clear hi)
              refine hK.out _ _ ⟨(blk_cell BK172.out 0).trans rfl, (blk_cell BK172.out 1).trans rfl, (blk_cell BK172.out 2).trans rfl, (blk_cell BK172.out 3).trans rfl, (blk_cell BK172.out 4).trans rfl, (blk_cell BK172.out 5).trans rfl, (blk_cell BK172.out 6).trans rfl, (blk_cell BK172.out 7).trans rfl, (blk_cell BK172.out 8).trans rfl, (blk_cell BK172.out 9).trans rfl, (blk_cell BK172.out 10).trans rfl, (blk_cell BK172.out 11).trans rfl⟩ (fun hHeld => ?_)
              clear hK K
              refine norm_ (a' := ?_) ?_ ?_
              rotate_left
              · show Act.put _ (some 33) _ = _
                simp only [Act.put, List.setIfInBounds_toArray, List.set_cons_zero, List.set_cons_succ, i64_w, i32_w]
                rfl
              refine pure_ (i := 18) (N := some 5) (v := ?_) (a' := ?_) #[true, true, true, true, true, true, true, true, true, true, true, true, true, true, true, true, true, true, true, false, false] rfl rfl (any_of HT_.out (by kernel_rfl)) (fun _ _ _ h => h) (Or.inl ⟨by rfl, ?_⟩) ?_ ?_
              rotate_left
              · intro w'
                go_simp
                with_reducible rfl
              rotate_left
              · simp only [Act.put, List.setIfInBounds_toArray, List.set_cons_zero, List.set_cons_succ, i64_w, i32_w]
                rfl
              refine pure_ (i := 19) (N := some 6) (v := ?_) (a' := ?_) #[true, true, true, true, true, true, true, true, true, true, true, true, true, true, true, true, true, true, true, true, false] rfl rfl (any_of HT_.out (by kernel_rfl)) (fun _ _ _ h => h) (Or.inl ⟨by rfl, ?_⟩) ?_ ?_
              rotate_left
              · intro w'
                go_simp
                with_reducible rfl
              rotate_left
              · simp only [Act.put, List.setIfInBounds_toArray, List.set_cons_zero, List.set_cons_succ, i64_w, i32_w]
                rfl
              refine pure_ (i := 20) (N := some 7) (v := ?_) (a' := ?_) #[true, true, true, true, true, true, true, true, true, true, true, true, true, true, true, true, true, true, true, true, true] rfl rfl (any_of HT_.out (by kernel_rfl)) (fun _ _ _ h => h) (Or.inl ⟨by rfl, ?_⟩) ?_ ?_
              rotate_left
              · intro w'
                go_simp
                with_reducible rfl
              rotate_left
              · simp only [Act.put, List.setIfInBounds_toArray, List.set_cons_zero, List.set_cons_succ, i64_w, i32_w]
                rfl
              refine done_ (done_of HT_.out (by kernel_rfl)) ?_
              have hcz25_0 : w24.cell? ⟨gb172, 0, none⟩ = some (.string a1_0) := (blk_cell BK172.out 0).trans rfl
              have hcz25_1 : w24.cell? ⟨gb172, 1, none⟩ = some (.int .i64 a1_1) := (blk_cell BK172.out 1).trans rfl
              have hcz25_2 : w24.cell? ⟨gb172, 2, none⟩ = some (.int .i64 a1_2) := (blk_cell BK172.out 2).trans rfl
              have hcz25_3 : w24.cell? ⟨gb172, 3, none⟩ = some (.bool a1_3) := (blk_cell BK172.out 3).trans rfl
              have hcz25_4 : w24.cell? ⟨gb172, 4, none⟩ = some (.string a1_4) := (blk_cell BK172.out 4).trans rfl
              have hcz25_5 : w24.cell? ⟨gb172, 5, none⟩ = some (.int .i64 a1_5) := (blk_cell BK172.out 5).trans rfl
              have hcz25_6 : w24.cell? ⟨gb172, 6, none⟩ = some (.int .i64 a1_6) := (blk_cell BK172.out 6).trans rfl
              have hcz25_7 : w24.cell? ⟨gb172, 7, none⟩ = some (.bool a1_7) := (blk_cell BK172.out 7).trans rfl
              have hcz25_8 : w24.cell? ⟨gb172, 8, none⟩ = some (.string a1_8) := (blk_cell BK172.out 8).trans rfl
              have hcz25_9 : w24.cell? ⟨gb172, 9, none⟩ = some (.int .i64 a1_9) := (blk_cell BK172.out 9).trans rfl
              have hcz25_10 : w24.cell? ⟨gb172, 10, none⟩ = some (.int .i64 a1_10) := (blk_cell BK172.out 10).trans rfl
              have hcz25_11 : w24.cell? ⟨gb172, 11, none⟩ = some (.bool a1_11) := (blk_cell BK172.out 11).trans rfl
              have hfz25_0 := blk_frozen BK172.out 0
              have hfz25_1 := blk_frozen BK172.out 1
              have hfz25_2 := blk_frozen BK172.out 2
              have hfz25_3 := blk_frozen BK172.out 3
              have hfz25_4 := blk_frozen BK172.out 4
              have hfz25_5 := blk_frozen BK172.out 5
              have hfz25_6 := blk_frozen BK172.out 6
              have hfz25_7 := blk_frozen BK172.out 7
              have hfz25_8 := blk_frozen BK172.out 8
              have hfz25_9 := blk_frozen BK172.out 9
              have hfz25_10 := blk_frozen BK172.out 10
              have hfz25_11 := blk_frozen BK172.out 11
              try go_wp2_with (first | ((with_reducible refine gate_callee (f := 10) rfl ?_); refine goesL_ (some 39) rfl rfl Tryd.func10 (by kernel_rfl) rfl #[.int .i64 a0, .agg #[.string a1_4, .int .i64 a1_5, .int .i64 a1_6, .bool a1_7], .agg #[.string a1_0, .int .i64 a1_1, .int .i64 a1_2, .bool a1_3]] rfl (by (try simp only [List.map_toArray, List.map_cons, List.map_nil]); first | done | rfl | (simp only [List.length_drop, List.length_take]; rfl)) ?_; (with_reducible refine (order_Compare.calls kj2 a0 a1_4 a1_5 a1_6 a1_7 a1_0 a1_1 a1_2 a1_3 t179 _ A16.out).mono ?_); rintro e w26 ⟨rfl, hb⟩; refine ⟨_, rfl, ?_⟩; have n0_ := Aside0.mk (blk_below (g := gb172) (o := .cells #[.string a1_0, .int .i64 a1_1, .int .i64 a1_2, .bool a1_3, .string a1_4, .int .i64 a1_5, .int .i64 a1_6, .bool a1_7, .string a1_8, .int .i64 a1_9, .int .i64 a1_10, .bool a1_11] 31 (0, 0)) (by (with_reducible repeat (first | refine blk_drewN ?_ _ | refine blk_drew ?_ | refine blk_alloc ?_ _)); exact BK172.out) hb); have n1_ := Aside0.mk (below_step (by repeat (first | (with_reducible first | exact HB.out | apply below_alloc | apply pw_below_drewN | apply below_drew1 | refine below_set ?_ GE172.out) | exact HB.out)) hb); clear BK172; clear HB; have BK172 := n0_; have HB := n1_; clear n0_ n1_; (try clear hb); (try clear hb2); (try clear hk); (try clear hi); have hcz27_0 : w26.cell? ⟨gb172, 0, none⟩ = some (.string a1_0) := (blk_cell BK172.out 0).trans rfl; have hcz27_1 : w26.cell? ⟨gb172, 1, none⟩ = some (.int .i64 a1_1) := (blk_cell BK172.out 1).trans rfl; have hcz27_2 : w26.cell? ⟨gb172, 2, none⟩ = some (.int .i64 a1_2) := (blk_cell BK172.out 2).trans rfl; have hcz27_3 : w26.cell? ⟨gb172, 3, none⟩ = some (.bool a1_3) := (blk_cell BK172.out 3).trans rfl; have hcz27_4 : w26.cell? ⟨gb172, 4, none⟩ = some (.string a1_4) := (blk_cell BK172.out 4).trans rfl; have hcz27_5 : w26.cell? ⟨gb172, 5, none⟩ = some (.int .i64 a1_5) := (blk_cell BK172.out 5).trans rfl; have hcz27_6 : w26.cell? ⟨gb172, 6, none⟩ = some (.int .i64 a1_6) := (blk_cell BK172.out 6).trans rfl; have hcz27_7 : w26.cell? ⟨gb172, 7, none⟩ = some (.bool a1_7) := (blk_cell BK172.out 7).trans rfl; have hcz27_8 : w26.cell? ⟨gb172, 8, none⟩ = some (.string a1_8) := (blk_cell BK172.out 8).trans rfl; have hcz27_9 : w26.cell? ⟨gb172, 9, none⟩ = some (.int .i64 a1_9) := (blk_cell BK172.out 9).trans rfl; have hcz27_10 : w26.cell? ⟨gb172, 10, none⟩ = some (.int .i64 a1_10) := (blk_cell BK172.out 10).trans rfl; have hcz27_11 : w26.cell? ⟨gb172, 11, none⟩ = some (.bool a1_11) := (blk_cell BK172.out 11).trans rfl; have hfz27_0 := blk_frozen BK172.out 0; have hfz27_1 := blk_frozen BK172.out 1; have hfz27_2 := blk_frozen BK172.out 2; have hfz27_3 := blk_frozen BK172.out 3; have hfz27_4 := blk_frozen BK172.out 4; have hfz27_5 := blk_frozen BK172.out 5; have hfz27_6 := blk_frozen BK172.out 6; have hfz27_7 := blk_frozen BK172.out 7; have hfz27_8 := blk_frozen BK172.out 8; have hfz27_9 := blk_frozen BK172.out 9; have hfz27_10 := blk_frozen BK172.out 10; have hfz27_11 := blk_frozen BK172.out 11) | (go_at_call 10; (with_reducible refine (order_Compare.calls kj2 a0 a1_0 a1_1 a1_2 a1_3 a1_0 a1_1 a1_2 a1_3 t180 _ A18.out).mono ?_); rintro e w28 ⟨rfl, hb⟩; have n0_ := Aside0.mk (blk_below (g := gb172) (o := .cells #[.string a1_0, .int .i64 a1_1, .int .i64 a1_2, .bool a1_3, .string a1_4, .int .i64 a1_5, .int .i64 a1_6, .bool a1_7, .string a1_8, .int .i64 a1_9, .int .i64 a1_10, .bool a1_11] 31 (0, 0)) (by (with_reducible repeat (first | refine blk_drewN ?_ _ | refine blk_drew ?_ | refine blk_alloc ?_ _)); exact BK172.out) hb); have n1_ := Aside0.mk (below_step (by repeat (first | (with_reducible first | exact HB.out | apply below_alloc | apply pw_below_drewN | apply below_drew1 | refine below_set ?_ GE172.out) | exact HB.out)) hb); clear BK172; clear HB; have BK172 := n0_; have HB := n1_; clear n0_ n1_; (try clear hb); (try clear hb2); (try clear hk); (try clear hi)))
              go_ret
              exact ⟨by first | rfl | (simp [errW_none, errW_some] <;> rfl) | (simp [*, errW_none, errW_some] <;> rfl), by repeat (first | (with_reducible first | exact HB.out | apply below_alloc | apply pw_below_drewN | apply below_drew1 | refine below_set ?_ GE172.out) | exact HB.out)⟩
            · rw [if_neg c20] at H
              have c20b0 : decide (0 < t176) = false := decide_eq_false c20
              clear c20
              by_cases c29 : t177 > 0
              · rw [if_pos c29] at H
                have c29b0 : decide (0 < t177) = true := decide_eq_true c29
                clear c29
                obtain rfl := Option.some.inj H
                try go_wp2
                have n0_ := Aside0.mk (blk_drew BK172.out)
                have n1_ := Aside0.mk (below_drew1 HB.out)
                clear BK172
                clear HB
                have BK172 := n0_
                have HB := n1_
                clear n0_ n1_
                refine start_ (n := 21) (S := fun w' => w'.cell? ⟨gb172, 0, none⟩ = some (.string a1_0) ∧ w'.cell? ⟨gb172, 1, none⟩ = some (.int .i64 a1_1) ∧ w'.cell? ⟨gb172, 2, none⟩ = some (.int .i64 a1_2) ∧ w'.cell? ⟨gb172, 3, none⟩ = some (.bool a1_3) ∧ w'.cell? ⟨gb172, 4, none⟩ = some (.string a1_4) ∧ w'.cell? ⟨gb172, 5, none⟩ = some (.int .i64 a1_5) ∧ w'.cell? ⟨gb172, 6, none⟩ = some (.int .i64 a1_6) ∧ w'.cell? ⟨gb172, 7, none⟩ = some (.bool a1_7) ∧ w'.cell? ⟨gb172, 8, none⟩ = some (.string a1_8) ∧ w'.cell? ⟨gb172, 9, none⟩ = some (.int .i64 a1_9) ∧ w'.cell? ⟨gb172, 10, none⟩ = some (.int .i64 a1_10) ∧ w'.cell? ⟨gb172, 11, none⟩ = some (.bool a1_11)) (ds := []) #[false, false, false, false, false, false, false, false, false, false, false, false, false, false, false, false, false, false, false, false, false] (by kernel_rfl) rfl rfl ⟨(blk_cell BK172.out 0).trans rfl, (blk_cell BK172.out 1).trans rfl, (blk_cell BK172.out 2).trans rfl, (blk_cell BK172.out 3).trans rfl, (blk_cell BK172.out 4).trans rfl, (blk_cell BK172.out 5).trans rfl, (blk_cell BK172.out 6).trans rfl, (blk_cell BK172.out 7).trans rfl, (blk_cell BK172.out 8).trans rfl, (blk_cell BK172.out 9).trans rfl, (blk_cell BK172.out 10).trans rfl, (blk_cell BK172.out 11).trans rfl⟩ (fun hHeld => ?_); refine with_tabW domesdaylaw10_OrderTotal.tab3 domesdaylaw10_OrderTotal.bits3 (fun HT_ HW_ => ?_)
                generalize wc.drew = w30 at BK172 HB hHeld ⊢
                refine pure_ (i := 0) (N := some 16) (v := ?_) (a' := ?_) #[true, false, false, false, false, false, false, false, false, false, false, false, false, false, false, false, false, false, false, false, false] rfl rfl (any_of HT_.out (by kernel_rfl)) (fun _ _ _ h => h) (Or.inl ⟨by rfl, ?_⟩) ?_ ?_
                rotate_left
                · intro w'
                  go_simp
                  with_reducible rfl
                rotate_left
                · simp only [Act.put, List.setIfInBounds_toArray, List.set_cons_zero, List.set_cons_succ, i64_w, i32_w]
                  rfl
                refine pure_ (i := 1) (N := some 17) (v := ?_) (a' := ?_) #[true, true, false, false, false, false, false, false, false, false, false, false, false, false, false, false, false, false, false, false, false] rfl rfl (any_of HT_.out (by kernel_rfl)) (fun _ _ _ h => h) (Or.inl ⟨by rfl, ?_⟩) ?_ ?_
                rotate_left
                · intro w'
                  go_simp
                  with_reducible rfl
                rotate_left
                · simp only [Act.put, List.setIfInBounds_toArray, List.set_cons_zero, List.set_cons_succ, i64_w, i32_w]
                  rfl
                refine pure_ (i := 3) (N := some 19) (v := ?_) (a' := ?_) #[true, true, false, true, false, false, false, false, false, false, false, false, false, false, false, false, false, false, false, false, false] rfl rfl (any_of HT_.out (by kernel_rfl)) (fun _ _ _ h => h) (Or.inl ⟨by rfl, ?_⟩) ?_ ?_
                rotate_left
                · intro w'
                  go_simp
                  with_reducible rfl
                rotate_left
                · simp only [Act.put, List.setIfInBounds_toArray, List.set_cons_zero, List.set_cons_succ, i64_w, i32_w]
                  rfl
                refine pure_ (i := 6) (N := some 22) (v := ?_) (a' := ?_) #[true, true, false, true, false, false, true, false, false, false, false, false, false, false, false, false, false, false, false, false, false] rfl rfl (any_of HT_.out (by kernel_rfl)) (fun _ _ _ h => h) (Or.inl ⟨by rfl, ?_⟩) ?_ ?_
                rotate_left
                · intro w'
                  go_simp
                  with_reducible rfl
                rotate_left
                · simp only [Act.put, List.setIfInBounds_toArray, List.set_cons_zero, List.set_cons_succ, i64_w, i32_w]
                  rfl
                refine pure_ (i := 7) (N := some 23) (v := ?_) (a' := ?_) #[true, true, false, true, false, false, true, true, false, false, false, false, false, false, false, false, false, false, false, false, false] rfl rfl (any_of HT_.out (by kernel_rfl)) (fun _ _ _ h => h) (Or.inl ⟨by rfl, ?_⟩) ?_ ?_
                rotate_left
                · intro w'
                  go_simp
                  with_reducible rfl
                rotate_left
                · simp only [Act.put, List.setIfInBounds_toArray, List.set_cons_zero, List.set_cons_succ, i64_w, i32_w]
                  rfl
                refine pure_ (i := 9) (N := some 25) (v := ?_) (a' := ?_) #[true, true, false, true, false, false, true, true, false, true, false, false, false, false, false, false, false, false, false, false, false] rfl rfl (any_of HT_.out (by kernel_rfl)) (fun _ _ _ h => h) (Or.inl ⟨by rfl, ?_⟩) ?_ ?_
                rotate_left
                · intro w'
                  go_simp
                  with_reducible rfl
                rotate_left
                · simp only [Act.put, List.setIfInBounds_toArray, List.set_cons_zero, List.set_cons_succ, i64_w, i32_w]
                  rfl
                refine pure_ (i := 12) (N := some 28) (v := ?_) (a' := ?_) #[true, true, false, true, false, false, true, true, false, true, false, false, true, false, false, false, false, false, false, false, false] rfl rfl (any_of HT_.out (by kernel_rfl)) (fun _ _ _ h => h) (Or.inl ⟨by rfl, ?_⟩) ?_ ?_
                rotate_left
                · intro w'
                  go_simp
                  with_reducible rfl
                rotate_left
                · simp only [Act.put, List.setIfInBounds_toArray, List.set_cons_zero, List.set_cons_succ, i64_w, i32_w]
                  rfl
                refine pure_ (i := 13) (N := some 29) (v := ?_) (a' := ?_) #[true, true, false, true, false, false, true, true, false, true, false, false, true, true, false, false, false, false, false, false, false] rfl rfl (any_of HT_.out (by kernel_rfl)) (fun _ _ _ h => h) (Or.inl ⟨by rfl, ?_⟩) ?_ ?_
                rotate_left
                · intro w'
                  go_simp
                  with_reducible rfl
                rotate_left
                · simp only [Act.put, List.setIfInBounds_toArray, List.set_cons_zero, List.set_cons_succ, i64_w, i32_w]
                  rfl
                refine pure_ (i := 15) (N := some 31) (v := ?_) (a' := ?_) #[true, true, false, true, false, false, true, true, false, true, false, false, true, true, false, true, false, false, false, false, false] rfl rfl (any_of HT_.out (by kernel_rfl)) (fun _ _ _ h => h) (Or.inl ⟨by rfl, ?_⟩) ?_ ?_
                rotate_left
                · intro w'
                  go_simp
                  with_reducible rfl
                rotate_left
                · simp only [Act.put, List.setIfInBounds_toArray, List.set_cons_zero, List.set_cons_succ, i64_w, i32_w]
                  rfl
                refine take_ (i := 2) (N := some 18) (v := ?_) (a' := ?_) #[true, true, true, true, false, false, true, true, false, true, false, false, true, true, false, true, false, false, false, false, false] rfl rfl (take_ofW HT_.out HW_.out (by kernel_rfl)) (fun _ _ _ h => h) (Or.inl ⟨by rfl, ?_⟩) hHeld ?_ ?_
                rotate_left
                · rintro w' ⟨s0, s1, s2, s3, s4, s5, s6, s7, s8, s9, s10, s11⟩
                  go_simp
                  with_reducible rfl
                rotate_left
                · simp only [Act.put, List.setIfInBounds_toArray, List.set_cons_zero, List.set_cons_succ, i64_w, i32_w]
                  rfl
                refine take_ (i := 4) (N := some 20) (v := ?_) (a' := ?_) #[true, true, true, true, true, false, true, true, false, true, false, false, true, true, false, true, false, false, false, false, false] rfl rfl (take_ofW HT_.out HW_.out (by kernel_rfl)) (fun _ _ _ h => h) (Or.inl ⟨by rfl, ?_⟩) hHeld ?_ ?_
                rotate_left
                · rintro w' ⟨s0, s1, s2, s3, s4, s5, s6, s7, s8, s9, s10, s11⟩
                  go_simp
                  with_reducible rfl
                rotate_left
                · simp only [Act.put, List.setIfInBounds_toArray, List.set_cons_zero, List.set_cons_succ, i64_w, i32_w]
                  rfl
                refine take_ (i := 8) (N := some 24) (v := ?_) (a' := ?_) #[true, true, true, true, true, false, true, true, true, true, false, false, true, true, false, true, false, false, false, false, false] rfl rfl (take_ofW HT_.out HW_.out (by kernel_rfl)) (fun _ _ _ h => h) (Or.inl ⟨by rfl, ?_⟩) hHeld ?_ ?_
                rotate_left
                · rintro w' ⟨s0, s1, s2, s3, s4, s5, s6, s7, s8, s9, s10, s11⟩
                  go_simp
                  with_reducible rfl
                rotate_left
                · simp only [Act.put, List.setIfInBounds_toArray, List.set_cons_zero, List.set_cons_succ, i64_w, i32_w]
                  rfl
                refine take_ (i := 10) (N := some 26) (v := ?_) (a' := ?_) #[true, true, true, true, true, false, true, true, true, true, true, false, true, true, false, true, false, false, false, false, false] rfl rfl (take_ofW HT_.out HW_.out (by kernel_rfl)) (fun _ _ _ h => h) (Or.inl ⟨by rfl, ?_⟩) hHeld ?_ ?_
                rotate_left
                · rintro w' ⟨s0, s1, s2, s3, s4, s5, s6, s7, s8, s9, s10, s11⟩
                  go_simp
                  with_reducible rfl
                rotate_left
                · simp only [Act.put, List.setIfInBounds_toArray, List.set_cons_zero, List.set_cons_succ, i64_w, i32_w]
                  rfl
                refine take_ (i := 14) (N := some 30) (v := ?_) (a' := ?_) #[true, true, true, true, true, false, true, true, true, true, true, false, true, true, true, true, false, false, false, false, false] rfl rfl (take_ofW HT_.out HW_.out (by kernel_rfl)) (fun _ _ _ h => h) (Or.inl ⟨by rfl, ?_⟩) hHeld ?_ ?_
                rotate_left
                · rintro w' ⟨s0, s1, s2, s3, s4, s5, s6, s7, s8, s9, s10, s11⟩
                  go_simp
                  with_reducible rfl
                rotate_left
                · simp only [Act.put, List.setIfInBounds_toArray, List.set_cons_zero, List.set_cons_succ, i64_w, i32_w]
                  rfl
                refine take_ (i := 16) (N := some 32) (v := ?_) (a' := ?_) #[true, true, true, true, true, false, true, true, true, true, true, false, true, true, true, true, true, false, false, false, false] rfl rfl (take_ofW HT_.out HW_.out (by kernel_rfl)) (fun _ _ _ h => h) (Or.inl ⟨by rfl, ?_⟩) hHeld ?_ ?_
                rotate_left
                · rintro w' ⟨s0, s1, s2, s3, s4, s5, s6, s7, s8, s9, s10, s11⟩
                  go_simp
                  with_reducible rfl
                rotate_left
                · simp only [Act.put, List.setIfInBounds_toArray, List.set_cons_zero, List.set_cons_succ, i64_w, i32_w]
                  rfl
                refine one_ (i := 5) (N := some 21) #[true, true, true, true, true, true, true, true, true, true, true, false, true, true, true, true, true, false, false, false, false] rfl rfl (one_of HT_.out (by kernel_rfl)) (by decide) (fun K hK => ?_)
                refine goes_ Tryd.func10 (by kernel_rfl) rfl #[.int .i64 a0, .agg #[.string a1_0, .int .i64 a1_1, .int .i64 a1_2, .bool a1_3], .agg #[.string a1_4, .int .i64 a1_5, .int .i64 a1_6, .bool a1_7]] (by rfl) rfl rfl (by (try simp only [List.map_toArray, List.map_cons, List.map_nil]); first | done | rfl | (simp only [List.length_drop, List.length_take]; rfl)) ?_
                with_reducible refine (order_Compare.calls kj2 a0 a1_0 a1_1 a1_2 a1_3 a1_4 a1_5 a1_6 a1_7 t176 _ A13.out).mono ?_
                rintro e w31 ⟨rfl, hb⟩
                refine ⟨_, rfl, ?_⟩
                have n0_ := Aside0.mk (blk_below (g := gb172) (o := .cells #[.string a1_0, .int .i64 a1_1, .int .i64 a1_2, .bool a1_3, .string a1_4, .int .i64 a1_5, .int .i64 a1_6, .bool a1_7, .string a1_8, .int .i64 a1_9, .int .i64 a1_10, .bool a1_11] 31 (0, 0)) (by (with_reducible repeat (first | refine blk_drewN ?_ _ | refine blk_drew ?_ | refine blk_alloc ?_ _)); exact BK172.out) hb)
                have n1_ := Aside0.mk (below_step (by repeat (first | (with_reducible first | exact HB.out | apply below_alloc | apply pw_below_drewN | apply below_drew1 | refine below_set ?_ GE172.out) | exact HB.out)) hb)
                clear BK172
                clear HB
                have BK172 := n0_
                have HB := n1_
                clear n0_ n1_
                (try clear hb)
                (try clear hb2)
                (try clear hk)
                (try clear hi)
                refine hK.out _ _ ⟨(blk_cell BK172.out 0).trans rfl, (blk_cell BK172.out 1).trans rfl, (blk_cell BK172.out 2).trans rfl, (blk_cell BK172.out 3).trans rfl, (blk_cell BK172.out 4).trans rfl, (blk_cell BK172.out 5).trans rfl, (blk_cell BK172.out 6).trans rfl, (blk_cell BK172.out 7).trans rfl, (blk_cell BK172.out 8).trans rfl, (blk_cell BK172.out 9).trans rfl, (blk_cell BK172.out 10).trans rfl, (blk_cell BK172.out 11).trans rfl⟩ (fun hHeld => ?_)
                clear hK K
                refine norm_ (a' := ?_) ?_ ?_
                rotate_left
                · show Act.put _ (some 21) _ = _
                  simp only [Act.put, List.setIfInBounds_toArray, List.set_cons_zero, List.set_cons_succ, i64_w, i32_w]
                  rfl
                refine one_ (i := 11) (N := some 27) #[true, true, true, true, true, true, true, true, true, true, true, true, true, true, true, true, true, false, false, false, false] rfl rfl (one_of HT_.out (by kernel_rfl)) (by decide) (fun K hK => ?_)
                refine goes_ Tryd.func10 (by kernel_rfl) rfl #[.int .i64 a0, .agg #[.string a1_4, .int .i64 a1_5, .int .i64 a1_6, .bool a1_7], .agg #[.string a1_8, .int .i64 a1_9, .int .i64 a1_10, .bool a1_11]] (by rfl) rfl rfl (by (try simp only [List.map_toArray, List.map_cons, List.map_nil]); first | done | rfl | (simp only [List.length_drop, List.length_take]; rfl)) ?_
                with_reducible refine (order_Compare.calls kj2 a0 a1_4 a1_5 a1_6 a1_7 a1_8 a1_9 a1_10 a1_11 t177 _ A14.out).mono ?_
                rintro e w32 ⟨rfl, hb⟩
                refine ⟨_, rfl, ?_⟩
                have n0_ := Aside0.mk (blk_below (g := gb172) (o := .cells #[.string a1_0, .int .i64 a1_1, .int .i64 a1_2, .bool a1_3, .string a1_4, .int .i64 a1_5, .int .i64 a1_6, .bool a1_7, .string a1_8, .int .i64 a1_9, .int .i64 a1_10, .bool a1_11] 31 (0, 0)) (by (with_reducible repeat (first | refine blk_drewN ?_ _ | refine blk_drew ?_ | refine blk_alloc ?_ _)); exact BK172.out) hb)
                have n1_ := Aside0.mk (below_step (by repeat (first | (with_reducible first | exact HB.out | apply below_alloc | apply pw_below_drewN | apply below_drew1 | refine below_set ?_ GE172.out) | exact HB.out)) hb)
                clear BK172
                clear HB
                have BK172 := n0_
                have HB := n1_
                clear n0_ n1_
                (try clear hb)
                (try clear hb2)
                (try clear hk)
                (try clear hi)
                refine hK.out _ _ ⟨(blk_cell BK172.out 0).trans rfl, (blk_cell BK172.out 1).trans rfl, (blk_cell BK172.out 2).trans rfl, (blk_cell BK172.out 3).trans rfl, (blk_cell BK172.out 4).trans rfl, (blk_cell BK172.out 5).trans rfl, (blk_cell BK172.out 6).trans rfl, (blk_cell BK172.out 7).trans rfl, (blk_cell BK172.out 8).trans rfl, (blk_cell BK172.out 9).trans rfl, (blk_cell BK172.out 10).trans rfl, (blk_cell BK172.out 11).trans rfl⟩ (fun hHeld => ?_)
                clear hK K
                refine norm_ (a' := ?_) ?_ ?_
                rotate_left
                · show Act.put _ (some 27) _ = _
                  simp only [Act.put, List.setIfInBounds_toArray, List.set_cons_zero, List.set_cons_succ, i64_w, i32_w]
                  rfl
                refine one_ (i := 17) (N := some 33) #[true, true, true, true, true, true, true, true, true, true, true, true, true, true, true, true, true, true, false, false, false] rfl rfl (one_of HT_.out (by kernel_rfl)) (by decide) (fun K hK => ?_)
                refine goes_ Tryd.func10 (by kernel_rfl) rfl #[.int .i64 a0, .agg #[.string a1_0, .int .i64 a1_1, .int .i64 a1_2, .bool a1_3], .agg #[.string a1_8, .int .i64 a1_9, .int .i64 a1_10, .bool a1_11]] (by rfl) rfl rfl (by (try simp only [List.map_toArray, List.map_cons, List.map_nil]); first | done | rfl | (simp only [List.length_drop, List.length_take]; rfl)) ?_
                with_reducible refine (order_Compare.calls kj2 a0 a1_0 a1_1 a1_2 a1_3 a1_8 a1_9 a1_10 a1_11 t178 _ A15.out).mono ?_
                rintro e w33 ⟨rfl, hb⟩
                refine ⟨_, rfl, ?_⟩
                have n0_ := Aside0.mk (blk_below (g := gb172) (o := .cells #[.string a1_0, .int .i64 a1_1, .int .i64 a1_2, .bool a1_3, .string a1_4, .int .i64 a1_5, .int .i64 a1_6, .bool a1_7, .string a1_8, .int .i64 a1_9, .int .i64 a1_10, .bool a1_11] 31 (0, 0)) (by (with_reducible repeat (first | refine blk_drewN ?_ _ | refine blk_drew ?_ | refine blk_alloc ?_ _)); exact BK172.out) hb)
                have n1_ := Aside0.mk (below_step (by repeat (first | (with_reducible first | exact HB.out | apply below_alloc | apply pw_below_drewN | apply below_drew1 | refine below_set ?_ GE172.out) | exact HB.out)) hb)
                clear BK172
                clear HB
                have BK172 := n0_
                have HB := n1_
                clear n0_ n1_
                (try clear hb)
                (try clear hb2)
                (try clear hk)
                (try clear hi)
                refine hK.out _ _ ⟨(blk_cell BK172.out 0).trans rfl, (blk_cell BK172.out 1).trans rfl, (blk_cell BK172.out 2).trans rfl, (blk_cell BK172.out 3).trans rfl, (blk_cell BK172.out 4).trans rfl, (blk_cell BK172.out 5).trans rfl, (blk_cell BK172.out 6).trans rfl, (blk_cell BK172.out 7).trans rfl, (blk_cell BK172.out 8).trans rfl, (blk_cell BK172.out 9).trans rfl, (blk_cell BK172.out 10).trans rfl, (blk_cell BK172.out 11).trans rfl⟩ (fun hHeld => ?_)
                clear hK K
                refine norm_ (a' := ?_) ?_ ?_
                rotate_left
                · show Act.put _ (some 33) _ = _
                  simp only [Act.put, List.setIfInBounds_toArray, List.set_cons_zero, List.set_cons_succ, i64_w, i32_w]
                  rfl
                refine pure_ (i := 18) (N := some 5) (v := ?_) (a' := ?_) #[true, true, true, true, true, true, true, true, true, true, true, true, true, true, true, true, true, true, true, false, false] rfl rfl (any_of HT_.out (by kernel_rfl)) (fun _ _ _ h => h) (Or.inl ⟨by rfl, ?_⟩) ?_ ?_
                rotate_left
                · intro w'
                  go_simp
                  with_reducible rfl
                rotate_left
                · simp only [Act.put, List.setIfInBounds_toArray, List.set_cons_zero, List.set_cons_succ, i64_w, i32_w]
                  rfl
                refine pure_ (i := 19) (N := some 6) (v := ?_) (a' := ?_) #[true, true, true, true, true, true, true, true, true, true, true, true, true, true, true, true, true, true, true, true, false] rfl rfl (any_of HT_.out (by kernel_rfl)) (fun _ _ _ h => h) (Or.inl ⟨by rfl, ?_⟩) ?_ ?_
                rotate_left
                · intro w'
                  go_simp
                  with_reducible rfl
                rotate_left
                · simp only [Act.put, List.setIfInBounds_toArray, List.set_cons_zero, List.set_cons_succ, i64_w, i32_w]
                  rfl
                refine pure_ (i := 20) (N := some 7) (v := ?_) (a' := ?_) #[true, true, true, true, true, true, true, true, true, true, true, true, true, true, true, true, true, true, true, true, true] rfl rfl (any_of HT_.out (by kernel_rfl)) (fun _ _ _ h => h) (Or.inl ⟨by rfl, ?_⟩) ?_ ?_
                rotate_left
                · intro w'
                  go_simp
                  with_reducible rfl
                rotate_left
                · simp only [Act.put, List.setIfInBounds_toArray, List.set_cons_zero, List.set_cons_succ, i64_w, i32_w]
                  rfl
                refine done_ (done_of HT_.out (by kernel_rfl)) ?_
                have hcz34_0 : w33.cell? ⟨gb172, 0, none⟩ = some (.string a1_0) := (blk_cell BK172.out 0).trans rfl
                have hcz34_1 : w33.cell? ⟨gb172, 1, none⟩ = some (.int .i64 a1_1) := (blk_cell BK172.out 1).trans rfl
                have hcz34_2 : w33.cell? ⟨gb172, 2, none⟩ = some (.int .i64 a1_2) := (blk_cell BK172.out 2).trans rfl
                have hcz34_3 : w33.cell? ⟨gb172, 3, none⟩ = some (.bool a1_3) := (blk_cell BK172.out 3).trans rfl
                have hcz34_4 : w33.cell? ⟨gb172, 4, none⟩ = some (.string a1_4) := (blk_cell BK172.out 4).trans rfl
                have hcz34_5 : w33.cell? ⟨gb172, 5, none⟩ = some (.int .i64 a1_5) := (blk_cell BK172.out 5).trans rfl
                have hcz34_6 : w33.cell? ⟨gb172, 6, none⟩ = some (.int .i64 a1_6) := (blk_cell BK172.out 6).trans rfl
                have hcz34_7 : w33.cell? ⟨gb172, 7, none⟩ = some (.bool a1_7) := (blk_cell BK172.out 7).trans rfl
                have hcz34_8 : w33.cell? ⟨gb172, 8, none⟩ = some (.string a1_8) := (blk_cell BK172.out 8).trans rfl
                have hcz34_9 : w33.cell? ⟨gb172, 9, none⟩ = some (.int .i64 a1_9) := (blk_cell BK172.out 9).trans rfl
                have hcz34_10 : w33.cell? ⟨gb172, 10, none⟩ = some (.int .i64 a1_10) := (blk_cell BK172.out 10).trans rfl
                have hcz34_11 : w33.cell? ⟨gb172, 11, none⟩ = some (.bool a1_11) := (blk_cell BK172.out 11).trans rfl
                have hfz34_0 := blk_frozen BK172.out 0
                have hfz34_1 := blk_frozen BK172.out 1
                have hfz34_2 := blk_frozen BK172.out 2
                have hfz34_3 := blk_frozen BK172.out 3
                have hfz34_4 := blk_frozen BK172.out 4
                have hfz34_5 := blk_frozen BK172.out 5
                have hfz34_6 := blk_frozen BK172.out 6
                have hfz34_7 := blk_frozen BK172.out 7
                have hfz34_8 := blk_frozen BK172.out 8
                have hfz34_9 := blk_frozen BK172.out 9
                have hfz34_10 := blk_frozen BK172.out 10
                have hfz34_11 := blk_frozen BK172.out 11
                try go_wp2_with (first | ((with_reducible refine gate_callee (f := 10) rfl ?_); refine goesL_ (some 39) rfl rfl Tryd.func10 (by kernel_rfl) rfl #[.int .i64 a0, .agg #[.string a1_4, .int .i64 a1_5, .int .i64 a1_6, .bool a1_7], .agg #[.string a1_0, .int .i64 a1_1, .int .i64 a1_2, .bool a1_3]] rfl (by (try simp only [List.map_toArray, List.map_cons, List.map_nil]); first | done | rfl | (simp only [List.length_drop, List.length_take]; rfl)) ?_; (with_reducible refine (order_Compare.calls kj2 a0 a1_4 a1_5 a1_6 a1_7 a1_0 a1_1 a1_2 a1_3 t179 _ A16.out).mono ?_); rintro e w35 ⟨rfl, hb⟩; refine ⟨_, rfl, ?_⟩; have n0_ := Aside0.mk (blk_below (g := gb172) (o := .cells #[.string a1_0, .int .i64 a1_1, .int .i64 a1_2, .bool a1_3, .string a1_4, .int .i64 a1_5, .int .i64 a1_6, .bool a1_7, .string a1_8, .int .i64 a1_9, .int .i64 a1_10, .bool a1_11] 31 (0, 0)) (by (with_reducible repeat (first | refine blk_drewN ?_ _ | refine blk_drew ?_ | refine blk_alloc ?_ _)); exact BK172.out) hb); have n1_ := Aside0.mk (below_step (by repeat (first | (with_reducible first | exact HB.out | apply below_alloc | apply pw_below_drewN | apply below_drew1 | refine below_set ?_ GE172.out) | exact HB.out)) hb); clear BK172; clear HB; have BK172 := n0_; have HB := n1_; clear n0_ n1_; (try clear hb); (try clear hb2); (try clear hk); (try clear hi); have hcz36_0 : w35.cell? ⟨gb172, 0, none⟩ = some (.string a1_0) := (blk_cell BK172.out 0).trans rfl; have hcz36_1 : w35.cell? ⟨gb172, 1, none⟩ = some (.int .i64 a1_1) := (blk_cell BK172.out 1).trans rfl; have hcz36_2 : w35.cell? ⟨gb172, 2, none⟩ = some (.int .i64 a1_2) := (blk_cell BK172.out 2).trans rfl; have hcz36_3 : w35.cell? ⟨gb172, 3, none⟩ = some (.bool a1_3) := (blk_cell BK172.out 3).trans rfl; have hcz36_4 : w35.cell? ⟨gb172, 4, none⟩ = some (.string a1_4) := (blk_cell BK172.out 4).trans rfl; have hcz36_5 : w35.cell? ⟨gb172, 5, none⟩ = some (.int .i64 a1_5) := (blk_cell BK172.out 5).trans rfl; have hcz36_6 : w35.cell? ⟨gb172, 6, none⟩ = some (.int .i64 a1_6) := (blk_cell BK172.out 6).trans rfl; have hcz36_7 : w35.cell? ⟨gb172, 7, none⟩ = some (.bool a1_7) := (blk_cell BK172.out 7).trans rfl; have hcz36_8 : w35.cell? ⟨gb172, 8, none⟩ = some (.string a1_8) := (blk_cell BK172.out 8).trans rfl; have hcz36_9 : w35.cell? ⟨gb172, 9, none⟩ = some (.int .i64 a1_9) := (blk_cell BK172.out 9).trans rfl; have hcz36_10 : w35.cell? ⟨gb172, 10, none⟩ = some (.int .i64 a1_10) := (blk_cell BK172.out 10).trans rfl; have hcz36_11 : w35.cell? ⟨gb172, 11, none⟩ = some (.bool a1_11) := (blk_cell BK172.out 11).trans rfl; have hfz36_0 := blk_frozen BK172.out 0; have hfz36_1 := blk_frozen BK172.out 1; have hfz36_2 := blk_frozen BK172.out 2; have hfz36_3 := blk_frozen BK172.out 3; have hfz36_4 := blk_frozen BK172.out 4; have hfz36_5 := blk_frozen BK172.out 5; have hfz36_6 := blk_frozen BK172.out 6; have hfz36_7 := blk_frozen BK172.out 7; have hfz36_8 := blk_frozen BK172.out 8; have hfz36_9 := blk_frozen BK172.out 9; have hfz36_10 := blk_frozen BK172.out 10; have hfz36_11 := blk_frozen BK172.out 11) | (go_at_call 10; (with_reducible refine (order_Compare.calls kj2 a0 a1_0 a1_1 a1_2 a1_3 a1_0 a1_1 a1_2 a1_3 t180 _ A18.out).mono ?_); rintro e w37 ⟨rfl, hb⟩; have n0_ := Aside0.mk (blk_below (g := gb172) (o := .cells #[.string a1_0, .int .i64 a1_1, .int .i64 a1_2, .bool a1_3, .string a1_4, .int .i64 a1_5, .int .i64 a1_6, .bool a1_7, .string a1_8, .int .i64 a1_9, .int .i64 a1_10, .bool a1_11] 31 (0, 0)) (by (with_reducible repeat (first | refine blk_drewN ?_ _ | refine blk_drew ?_ | refine blk_alloc ?_ _)); exact BK172.out) hb); have n1_ := Aside0.mk (below_step (by repeat (first | (with_reducible first | exact HB.out | apply below_alloc | apply pw_below_drewN | apply below_drew1 | refine below_set ?_ GE172.out) | exact HB.out)) hb); clear BK172; clear HB; have BK172 := n0_; have HB := n1_; clear n0_ n1_; (try clear hb); (try clear hb2); (try clear hk); (try clear hi)))
                go_ret
                exact ⟨by first | rfl | (simp [errW_none, errW_some] <;> rfl) | (simp [*, errW_none, errW_some] <;> rfl), by repeat (first | (with_reducible first | exact HB.out | apply below_alloc | apply pw_below_drewN | apply below_drew1 | refine below_set ?_ GE172.out) | exact HB.out)⟩
              · rw [if_neg c29] at H
                have c29b0 : decide (0 < t177) = false := decide_eq_false c29
                clear c29
                obtain rfl := Option.some.inj H
                try go_wp2
                have n0_ := Aside0.mk (blk_drew BK172.out)
                have n1_ := Aside0.mk (below_drew1 HB.out)
                clear BK172
                clear HB
                have BK172 := n0_
                have HB := n1_
                clear n0_ n1_
                refine start_ (n := 21) (S := fun w' => w'.cell? ⟨gb172, 0, none⟩ = some (.string a1_0) ∧ w'.cell? ⟨gb172, 1, none⟩ = some (.int .i64 a1_1) ∧ w'.cell? ⟨gb172, 2, none⟩ = some (.int .i64 a1_2) ∧ w'.cell? ⟨gb172, 3, none⟩ = some (.bool a1_3) ∧ w'.cell? ⟨gb172, 4, none⟩ = some (.string a1_4) ∧ w'.cell? ⟨gb172, 5, none⟩ = some (.int .i64 a1_5) ∧ w'.cell? ⟨gb172, 6, none⟩ = some (.int .i64 a1_6) ∧ w'.cell? ⟨gb172, 7, none⟩ = some (.bool a1_7) ∧ w'.cell? ⟨gb172, 8, none⟩ = some (.string a1_8) ∧ w'.cell? ⟨gb172, 9, none⟩ = some (.int .i64 a1_9) ∧ w'.cell? ⟨gb172, 10, none⟩ = some (.int .i64 a1_10) ∧ w'.cell? ⟨gb172, 11, none⟩ = some (.bool a1_11)) (ds := []) #[false, false, false, false, false, false, false, false, false, false, false, false, false, false, false, false, false, false, false, false, false] (by kernel_rfl) rfl rfl ⟨(blk_cell BK172.out 0).trans rfl, (blk_cell BK172.out 1).trans rfl, (blk_cell BK172.out 2).trans rfl, (blk_cell BK172.out 3).trans rfl, (blk_cell BK172.out 4).trans rfl, (blk_cell BK172.out 5).trans rfl, (blk_cell BK172.out 6).trans rfl, (blk_cell BK172.out 7).trans rfl, (blk_cell BK172.out 8).trans rfl, (blk_cell BK172.out 9).trans rfl, (blk_cell BK172.out 10).trans rfl, (blk_cell BK172.out 11).trans rfl⟩ (fun hHeld => ?_); refine with_tabW domesdaylaw10_OrderTotal.tab3 domesdaylaw10_OrderTotal.bits3 (fun HT_ HW_ => ?_)
                generalize wc.drew = w38 at BK172 HB hHeld ⊢
                refine pure_ (i := 0) (N := some 16) (v := ?_) (a' := ?_) #[true, false, false, false, false, false, false, false, false, false, false, false, false, false, false, false, false, false, false, false, false] rfl rfl (any_of HT_.out (by kernel_rfl)) (fun _ _ _ h => h) (Or.inl ⟨by rfl, ?_⟩) ?_ ?_
                rotate_left
                · intro w'
                  go_simp
                  with_reducible rfl
                rotate_left
                · simp only [Act.put, List.setIfInBounds_toArray, List.set_cons_zero, List.set_cons_succ, i64_w, i32_w]
                  rfl
                refine pure_ (i := 1) (N := some 17) (v := ?_) (a' := ?_) #[true, true, false, false, false, false, false, false, false, false, false, false, false, false, false, false, false, false, false, false, false] rfl rfl (any_of HT_.out (by kernel_rfl)) (fun _ _ _ h => h) (Or.inl ⟨by rfl, ?_⟩) ?_ ?_
                rotate_left
                · intro w'
                  go_simp
                  with_reducible rfl
                rotate_left
                · simp only [Act.put, List.setIfInBounds_toArray, List.set_cons_zero, List.set_cons_succ, i64_w, i32_w]
                  rfl
                refine pure_ (i := 3) (N := some 19) (v := ?_) (a' := ?_) #[true, true, false, true, false, false, false, false, false, false, false, false, false, false, false, false, false, false, false, false, false] rfl rfl (any_of HT_.out (by kernel_rfl)) (fun _ _ _ h => h) (Or.inl ⟨by rfl, ?_⟩) ?_ ?_
                rotate_left
                · intro w'
                  go_simp
                  with_reducible rfl
                rotate_left
                · simp only [Act.put, List.setIfInBounds_toArray, List.set_cons_zero, List.set_cons_succ, i64_w, i32_w]
                  rfl
                refine pure_ (i := 6) (N := some 22) (v := ?_) (a' := ?_) #[true, true, false, true, false, false, true, false, false, false, false, false, false, false, false, false, false, false, false, false, false] rfl rfl (any_of HT_.out (by kernel_rfl)) (fun _ _ _ h => h) (Or.inl ⟨by rfl, ?_⟩) ?_ ?_
                rotate_left
                · intro w'
                  go_simp
                  with_reducible rfl
                rotate_left
                · simp only [Act.put, List.setIfInBounds_toArray, List.set_cons_zero, List.set_cons_succ, i64_w, i32_w]
                  rfl
                refine pure_ (i := 7) (N := some 23) (v := ?_) (a' := ?_) #[true, true, false, true, false, false, true, true, false, false, false, false, false, false, false, false, false, false, false, false, false] rfl rfl (any_of HT_.out (by kernel_rfl)) (fun _ _ _ h => h) (Or.inl ⟨by rfl, ?_⟩) ?_ ?_
                rotate_left
                · intro w'
                  go_simp
                  with_reducible rfl
                rotate_left
                · simp only [Act.put, List.setIfInBounds_toArray, List.set_cons_zero, List.set_cons_succ, i64_w, i32_w]
                  rfl
                refine pure_ (i := 9) (N := some 25) (v := ?_) (a' := ?_) #[true, true, false, true, false, false, true, true, false, true, false, false, false, false, false, false, false, false, false, false, false] rfl rfl (any_of HT_.out (by kernel_rfl)) (fun _ _ _ h => h) (Or.inl ⟨by rfl, ?_⟩) ?_ ?_
                rotate_left
                · intro w'
                  go_simp
                  with_reducible rfl
                rotate_left
                · simp only [Act.put, List.setIfInBounds_toArray, List.set_cons_zero, List.set_cons_succ, i64_w, i32_w]
                  rfl
                refine pure_ (i := 12) (N := some 28) (v := ?_) (a' := ?_) #[true, true, false, true, false, false, true, true, false, true, false, false, true, false, false, false, false, false, false, false, false] rfl rfl (any_of HT_.out (by kernel_rfl)) (fun _ _ _ h => h) (Or.inl ⟨by rfl, ?_⟩) ?_ ?_
                rotate_left
                · intro w'
                  go_simp
                  with_reducible rfl
                rotate_left
                · simp only [Act.put, List.setIfInBounds_toArray, List.set_cons_zero, List.set_cons_succ, i64_w, i32_w]
                  rfl
                refine pure_ (i := 13) (N := some 29) (v := ?_) (a' := ?_) #[true, true, false, true, false, false, true, true, false, true, false, false, true, true, false, false, false, false, false, false, false] rfl rfl (any_of HT_.out (by kernel_rfl)) (fun _ _ _ h => h) (Or.inl ⟨by rfl, ?_⟩) ?_ ?_
                rotate_left
                · intro w'
                  go_simp
                  with_reducible rfl
                rotate_left
                · simp only [Act.put, List.setIfInBounds_toArray, List.set_cons_zero, List.set_cons_succ, i64_w, i32_w]
                  rfl
                refine pure_ (i := 15) (N := some 31) (v := ?_) (a' := ?_) #[true, true, false, true, false, false, true, true, false, true, false, false, true, true, false, true, false, false, false, false, false] rfl rfl (any_of HT_.out (by kernel_rfl)) (fun _ _ _ h => h) (Or.inl ⟨by rfl, ?_⟩) ?_ ?_
                rotate_left
                · intro w'
                  go_simp
                  with_reducible rfl
                rotate_left
                · simp only [Act.put, List.setIfInBounds_toArray, List.set_cons_zero, List.set_cons_succ, i64_w, i32_w]
                  rfl
                refine take_ (i := 2) (N := some 18) (v := ?_) (a' := ?_) #[true, true, true, true, false, false, true, true, false, true, false, false, true, true, false, true, false, false, false, false, false] rfl rfl (take_ofW HT_.out HW_.out (by kernel_rfl)) (fun _ _ _ h => h) (Or.inl ⟨by rfl, ?_⟩) hHeld ?_ ?_
                rotate_left
                · rintro w' ⟨s0, s1, s2, s3, s4, s5, s6, s7, s8, s9, s10, s11⟩
                  go_simp
                  with_reducible rfl
                rotate_left
                · simp only [Act.put, List.setIfInBounds_toArray, List.set_cons_zero, List.set_cons_succ, i64_w, i32_w]
                  rfl
                refine take_ (i := 4) (N := some 20) (v := ?_) (a' := ?_) #[true, true, true, true, true, false, true, true, false, true, false, false, true, true, false, true, false, false, false, false, false] rfl rfl (take_ofW HT_.out HW_.out (by kernel_rfl)) (fun _ _ _ h => h) (Or.inl ⟨by rfl, ?_⟩) hHeld ?_ ?_
                rotate_left
                · rintro w' ⟨s0, s1, s2, s3, s4, s5, s6, s7, s8, s9, s10, s11⟩
                  go_simp
                  with_reducible rfl
                rotate_left
                · simp only [Act.put, List.setIfInBounds_toArray, List.set_cons_zero, List.set_cons_succ, i64_w, i32_w]
                  rfl
                refine take_ (i := 8) (N := some 24) (v := ?_) (a' := ?_) #[true, true, true, true, true, false, true, true, true, true, false, false, true, true, false, true, false, false, false, false, false] rfl rfl (take_ofW HT_.out HW_.out (by kernel_rfl)) (fun _ _ _ h => h) (Or.inl ⟨by rfl, ?_⟩) hHeld ?_ ?_
                rotate_left
                · rintro w' ⟨s0, s1, s2, s3, s4, s5, s6, s7, s8, s9, s10, s11⟩
                  go_simp
                  with_reducible rfl
                rotate_left
                · simp only [Act.put, List.setIfInBounds_toArray, List.set_cons_zero, List.set_cons_succ, i64_w, i32_w]
                  rfl
                refine take_ (i := 10) (N := some 26) (v := ?_) (a' := ?_) #[true, true, true, true, true, false, true, true, true, true, true, false, true, true, false, true, false, false, false, false, false] rfl rfl (take_ofW HT_.out HW_.out (by kernel_rfl)) (fun _ _ _ h => h) (Or.inl ⟨by rfl, ?_⟩) hHeld ?_ ?_
                rotate_left
                · rintro w' ⟨s0, s1, s2, s3, s4, s5, s6, s7, s8, s9, s10, s11⟩
                  go_simp
                  with_reducible rfl
                rotate_left
                · simp only [Act.put, List.setIfInBounds_toArray, List.set_cons_zero, List.set_cons_succ, i64_w, i32_w]
                  rfl
                refine take_ (i := 14) (N := some 30) (v := ?_) (a' := ?_) #[true, true, true, true, true, false, true, true, true, true, true, false, true, true, true, true, false, false, false, false, false] rfl rfl (take_ofW HT_.out HW_.out (by kernel_rfl)) (fun _ _ _ h => h) (Or.inl ⟨by rfl, ?_⟩) hHeld ?_ ?_
                rotate_left
                · rintro w' ⟨s0, s1, s2, s3, s4, s5, s6, s7, s8, s9, s10, s11⟩
                  go_simp
                  with_reducible rfl
                rotate_left
                · simp only [Act.put, List.setIfInBounds_toArray, List.set_cons_zero, List.set_cons_succ, i64_w, i32_w]
                  rfl
                refine take_ (i := 16) (N := some 32) (v := ?_) (a' := ?_) #[true, true, true, true, true, false, true, true, true, true, true, false, true, true, true, true, true, false, false, false, false] rfl rfl (take_ofW HT_.out HW_.out (by kernel_rfl)) (fun _ _ _ h => h) (Or.inl ⟨by rfl, ?_⟩) hHeld ?_ ?_
                rotate_left
                · rintro w' ⟨s0, s1, s2, s3, s4, s5, s6, s7, s8, s9, s10, s11⟩
                  go_simp
                  with_reducible rfl
                rotate_left
                · simp only [Act.put, List.setIfInBounds_toArray, List.set_cons_zero, List.set_cons_succ, i64_w, i32_w]
                  rfl
                refine one_ (i := 5) (N := some 21) #[true, true, true, true, true, true, true, true, true, true, true, false, true, true, true, true, true, false, false, false, false] rfl rfl (one_of HT_.out (by kernel_rfl)) (by decide) (fun K hK => ?_)
                refine goes_ Tryd.func10 (by kernel_rfl) rfl #[.int .i64 a0, .agg #[.string a1_0, .int .i64 a1_1, .int .i64 a1_2, .bool a1_3], .agg #[.string a1_4, .int .i64 a1_5, .int .i64 a1_6, .bool a1_7]] (by rfl) rfl rfl (by (try simp only [List.map_toArray, List.map_cons, List.map_nil]); first | done | rfl | (simp only [List.length_drop, List.length_take]; rfl)) ?_
                with_reducible refine (order_Compare.calls kj2 a0 a1_0 a1_1 a1_2 a1_3 a1_4 a1_5 a1_6 a1_7 t176 _ A13.out).mono ?_
                rintro e w39 ⟨rfl, hb⟩
                refine ⟨_, rfl, ?_⟩
                have n0_ := Aside0.mk (blk_below (g := gb172) (o := .cells #[.string a1_0, .int .i64 a1_1, .int .i64 a1_2, .bool a1_3, .string a1_4, .int .i64 a1_5, .int .i64 a1_6, .bool a1_7, .string a1_8, .int .i64 a1_9, .int .i64 a1_10, .bool a1_11] 31 (0, 0)) (by (with_reducible repeat (first | refine blk_drewN ?_ _ | refine blk_drew ?_ | refine blk_alloc ?_ _)); exact BK172.out) hb)
                have n1_ := Aside0.mk (below_step (by repeat (first | (with_reducible first | exact HB.out | apply below_alloc | apply pw_below_drewN | apply below_drew1 | refine below_set ?_ GE172.out) | exact HB.out)) hb)
                clear BK172
                clear HB
                have BK172 := n0_
                have HB := n1_
                clear n0_ n1_
                (try clear hb)
                (try clear hb2)
                (try clear hk)
                (try clear hi)
                refine hK.out _ _ ⟨(blk_cell BK172.out 0).trans rfl, (blk_cell BK172.out 1).trans rfl, (blk_cell BK172.out 2).trans rfl, (blk_cell BK172.out 3).trans rfl, (blk_cell BK172.out 4).trans rfl, (blk_cell BK172.out 5).trans rfl, (blk_cell BK172.out 6).trans rfl, (blk_cell BK172.out 7).trans rfl, (blk_cell BK172.out 8).trans rfl, (blk_cell BK172.out 9).trans rfl, (blk_cell BK172.out 10).trans rfl, (blk_cell BK172.out 11).trans rfl⟩ (fun hHeld => ?_)
                clear hK K
                refine norm_ (a' := ?_) ?_ ?_
                rotate_left
                · show Act.put _ (some 21) _ = _
                  simp only [Act.put, List.setIfInBounds_toArray, List.set_cons_zero, List.set_cons_succ, i64_w, i32_w]
                  rfl
                refine one_ (i := 11) (N := some 27) #[true, true, true, true, true, true, true, true, true, true, true, true, true, true, true, true, true, false, false, false, false] rfl rfl (one_of HT_.out (by kernel_rfl)) (by decide) (fun K hK => ?_)
                refine goes_ Tryd.func10 (by kernel_rfl) rfl #[.int .i64 a0, .agg #[.string a1_4, .int .i64 a1_5, .int .i64 a1_6, .bool a1_7], .agg #[.string a1_8, .int .i64 a1_9, .int .i64 a1_10, .bool a1_11]] (by rfl) rfl rfl (by (try simp only [List.map_toArray, List.map_cons, List.map_nil]); first | done | rfl | (simp only [List.length_drop, List.length_take]; rfl)) ?_
                with_reducible refine (order_Compare.calls kj2 a0 a1_4 a1_5 a1_6 a1_7 a1_8 a1_9 a1_10 a1_11 t177 _ A14.out).mono ?_
                rintro e w40 ⟨rfl, hb⟩
                refine ⟨_, rfl, ?_⟩
                have n0_ := Aside0.mk (blk_below (g := gb172) (o := .cells #[.string a1_0, .int .i64 a1_1, .int .i64 a1_2, .bool a1_3, .string a1_4, .int .i64 a1_5, .int .i64 a1_6, .bool a1_7, .string a1_8, .int .i64 a1_9, .int .i64 a1_10, .bool a1_11] 31 (0, 0)) (by (with_reducible repeat (first | refine blk_drewN ?_ _ | refine blk_drew ?_ | refine blk_alloc ?_ _)); exact BK172.out) hb)
                have n1_ := Aside0.mk (below_step (by repeat (first | (with_reducible first | exact HB.out | apply below_alloc | apply pw_below_drewN | apply below_drew1 | refine below_set ?_ GE172.out) | exact HB.out)) hb)
                clear BK172
                clear HB
                have BK172 := n0_
                have HB := n1_
                clear n0_ n1_
                (try clear hb)
                (try clear hb2)
                (try clear hk)
                (try clear hi)
                refine hK.out _ _ ⟨(blk_cell BK172.out 0).trans rfl, (blk_cell BK172.out 1).trans rfl, (blk_cell BK172.out 2).trans rfl, (blk_cell BK172.out 3).trans rfl, (blk_cell BK172.out 4).trans rfl, (blk_cell BK172.out 5).trans rfl, (blk_cell BK172.out 6).trans rfl, (blk_cell BK172.out 7).trans rfl, (blk_cell BK172.out 8).trans rfl, (blk_cell BK172.out 9).trans rfl, (blk_cell BK172.out 10).trans rfl, (blk_cell BK172.out 11).trans rfl⟩ (fun hHeld => ?_)
                clear hK K
                refine norm_ (a' := ?_) ?_ ?_
                rotate_left
                · show Act.put _ (some 27) _ = _
                  simp only [Act.put, List.setIfInBounds_toArray, List.set_cons_zero, List.set_cons_succ, i64_w, i32_w]
                  rfl
                refine one_ (i := 17) (N := some 33) #[true, true, true, true, true, true, true, true, true, true, true, true, true, true, true, true, true, true, false, false, false] rfl rfl (one_of HT_.out (by kernel_rfl)) (by decide) (fun K hK => ?_)
                refine goes_ Tryd.func10 (by kernel_rfl) rfl #[.int .i64 a0, .agg #[.string a1_0, .int .i64 a1_1, .int .i64 a1_2, .bool a1_3], .agg #[.string a1_8, .int .i64 a1_9, .int .i64 a1_10, .bool a1_11]] (by rfl) rfl rfl (by (try simp only [List.map_toArray, List.map_cons, List.map_nil]); first | done | rfl | (simp only [List.length_drop, List.length_take]; rfl)) ?_
                with_reducible refine (order_Compare.calls kj2 a0 a1_0 a1_1 a1_2 a1_3 a1_8 a1_9 a1_10 a1_11 t178 _ A15.out).mono ?_
                rintro e w41 ⟨rfl, hb⟩
                refine ⟨_, rfl, ?_⟩
                have n0_ := Aside0.mk (blk_below (g := gb172) (o := .cells #[.string a1_0, .int .i64 a1_1, .int .i64 a1_2, .bool a1_3, .string a1_4, .int .i64 a1_5, .int .i64 a1_6, .bool a1_7, .string a1_8, .int .i64 a1_9, .int .i64 a1_10, .bool a1_11] 31 (0, 0)) (by (with_reducible repeat (first | refine blk_drewN ?_ _ | refine blk_drew ?_ | refine blk_alloc ?_ _)); exact BK172.out) hb)
                have n1_ := Aside0.mk (below_step (by repeat (first | (with_reducible first | exact HB.out | apply below_alloc | apply pw_below_drewN | apply below_drew1 | refine below_set ?_ GE172.out) | exact HB.out)) hb)
                clear BK172
                clear HB
                have BK172 := n0_
                have HB := n1_
                clear n0_ n1_
                (try clear hb)
                (try clear hb2)
                (try clear hk)
                (try clear hi)
                refine hK.out _ _ ⟨(blk_cell BK172.out 0).trans rfl, (blk_cell BK172.out 1).trans rfl, (blk_cell BK172.out 2).trans rfl, (blk_cell BK172.out 3).trans rfl, (blk_cell BK172.out 4).trans rfl, (blk_cell BK172.out 5).trans rfl, (blk_cell BK172.out 6).trans rfl, (blk_cell BK172.out 7).trans rfl, (blk_cell BK172.out 8).trans rfl, (blk_cell BK172.out 9).trans rfl, (blk_cell BK172.out 10).trans rfl, (blk_cell BK172.out 11).trans rfl⟩ (fun hHeld => ?_)
                clear hK K
                refine norm_ (a' := ?_) ?_ ?_
                rotate_left
                · show Act.put _ (some 33) _ = _
                  simp only [Act.put, List.setIfInBounds_toArray, List.set_cons_zero, List.set_cons_succ, i64_w, i32_w]
                  rfl
                refine pure_ (i := 18) (N := some 5) (v := ?_) (a' := ?_) #[true, true, true, true, true, true, true, true, true, true, true, true, true, true, true, true, true, true, true, false, false] rfl rfl (any_of HT_.out (by kernel_rfl)) (fun _ _ _ h => h) (Or.inl ⟨by rfl, ?_⟩) ?_ ?_
                rotate_left
                · intro w'
                  go_simp
                  with_reducible rfl
                rotate_left
                · simp only [Act.put, List.setIfInBounds_toArray, List.set_cons_zero, List.set_cons_succ, i64_w, i32_w]
                  rfl
                refine pure_ (i := 19) (N := some 6) (v := ?_) (a' := ?_) #[true, true, true, true, true, true, true, true, true, true, true, true, true, true, true, true, true, true, true, true, false] rfl rfl (any_of HT_.out (by kernel_rfl)) (fun _ _ _ h => h) (Or.inl ⟨by rfl, ?_⟩) ?_ ?_
                rotate_left
                · intro w'
                  go_simp
                  with_reducible rfl
                rotate_left
                · simp only [Act.put, List.setIfInBounds_toArray, List.set_cons_zero, List.set_cons_succ, i64_w, i32_w]
                  rfl
                refine pure_ (i := 20) (N := some 7) (v := ?_) (a' := ?_) #[true, true, true, true, true, true, true, true, true, true, true, true, true, true, true, true, true, true, true, true, true] rfl rfl (any_of HT_.out (by kernel_rfl)) (fun _ _ _ h => h) (Or.inl ⟨by rfl, ?_⟩) ?_ ?_
                rotate_left
                · intro w'
                  go_simp
                  with_reducible rfl
                rotate_left
                · simp only [Act.put, List.setIfInBounds_toArray, List.set_cons_zero, List.set_cons_succ, i64_w, i32_w]
                  rfl
                refine done_ (done_of HT_.out (by kernel_rfl)) ?_
                have hcz42_0 : w41.cell? ⟨gb172, 0, none⟩ = some (.string a1_0) := (blk_cell BK172.out 0).trans rfl
                have hcz42_1 : w41.cell? ⟨gb172, 1, none⟩ = some (.int .i64 a1_1) := (blk_cell BK172.out 1).trans rfl
                have hcz42_2 : w41.cell? ⟨gb172, 2, none⟩ = some (.int .i64 a1_2) := (blk_cell BK172.out 2).trans rfl
                have hcz42_3 : w41.cell? ⟨gb172, 3, none⟩ = some (.bool a1_3) := (blk_cell BK172.out 3).trans rfl
                have hcz42_4 : w41.cell? ⟨gb172, 4, none⟩ = some (.string a1_4) := (blk_cell BK172.out 4).trans rfl
                have hcz42_5 : w41.cell? ⟨gb172, 5, none⟩ = some (.int .i64 a1_5) := (blk_cell BK172.out 5).trans rfl
                have hcz42_6 : w41.cell? ⟨gb172, 6, none⟩ = some (.int .i64 a1_6) := (blk_cell BK172.out 6).trans rfl
                have hcz42_7 : w41.cell? ⟨gb172, 7, none⟩ = some (.bool a1_7) := (blk_cell BK172.out 7).trans rfl
                have hcz42_8 : w41.cell? ⟨gb172, 8, none⟩ = some (.string a1_8) := (blk_cell BK172.out 8).trans rfl
                have hcz42_9 : w41.cell? ⟨gb172, 9, none⟩ = some (.int .i64 a1_9) := (blk_cell BK172.out 9).trans rfl
                have hcz42_10 : w41.cell? ⟨gb172, 10, none⟩ = some (.int .i64 a1_10) := (blk_cell BK172.out 10).trans rfl
                have hcz42_11 : w41.cell? ⟨gb172, 11, none⟩ = some (.bool a1_11) := (blk_cell BK172.out 11).trans rfl
                have hfz42_0 := blk_frozen BK172.out 0
                have hfz42_1 := blk_frozen BK172.out 1
                have hfz42_2 := blk_frozen BK172.out 2
                have hfz42_3 := blk_frozen BK172.out 3
                have hfz42_4 := blk_frozen BK172.out 4
                have hfz42_5 := blk_frozen BK172.out 5
                have hfz42_6 := blk_frozen BK172.out 6
                have hfz42_7 := blk_frozen BK172.out 7
                have hfz42_8 := blk_frozen BK172.out 8
                have hfz42_9 := blk_frozen BK172.out 9
                have hfz42_10 := blk_frozen BK172.out 10
                have hfz42_11 := blk_frozen BK172.out 11
                try go_wp2_with (first | ((with_reducible refine gate_callee (f := 10) rfl ?_); refine goesL_ (some 39) rfl rfl Tryd.func10 (by kernel_rfl) rfl #[.int .i64 a0, .agg #[.string a1_4, .int .i64 a1_5, .int .i64 a1_6, .bool a1_7], .agg #[.string a1_0, .int .i64 a1_1, .int .i64 a1_2, .bool a1_3]] rfl (by (try simp only [List.map_toArray, List.map_cons, List.map_nil]); first | done | rfl | (simp only [List.length_drop, List.length_take]; rfl)) ?_; (with_reducible refine (order_Compare.calls kj2 a0 a1_4 a1_5 a1_6 a1_7 a1_0 a1_1 a1_2 a1_3 t179 _ A16.out).mono ?_); rintro e w43 ⟨rfl, hb⟩; refine ⟨_, rfl, ?_⟩; have n0_ := Aside0.mk (blk_below (g := gb172) (o := .cells #[.string a1_0, .int .i64 a1_1, .int .i64 a1_2, .bool a1_3, .string a1_4, .int .i64 a1_5, .int .i64 a1_6, .bool a1_7, .string a1_8, .int .i64 a1_9, .int .i64 a1_10, .bool a1_11] 31 (0, 0)) (by (with_reducible repeat (first | refine blk_drewN ?_ _ | refine blk_drew ?_ | refine blk_alloc ?_ _)); exact BK172.out) hb); have n1_ := Aside0.mk (below_step (by repeat (first | (with_reducible first | exact HB.out | apply below_alloc | apply pw_below_drewN | apply below_drew1 | refine below_set ?_ GE172.out) | exact HB.out)) hb); clear BK172; clear HB; have BK172 := n0_; have HB := n1_; clear n0_ n1_; (try clear hb); (try clear hb2); (try clear hk); (try clear hi); have hcz44_0 : w43.cell? ⟨gb172, 0, none⟩ = some (.string a1_0) := (blk_cell BK172.out 0).trans rfl; have hcz44_1 : w43.cell? ⟨gb172, 1, none⟩ = some (.int .i64 a1_1) := (blk_cell BK172.out 1).trans rfl; have hcz44_2 : w43.cell? ⟨gb172, 2, none⟩ = some (.int .i64 a1_2) := (blk_cell BK172.out 2).trans rfl; have hcz44_3 : w43.cell? ⟨gb172, 3, none⟩ = some (.bool a1_3) := (blk_cell BK172.out 3).trans rfl; have hcz44_4 : w43.cell? ⟨gb172, 4, none⟩ = some (.string a1_4) := (blk_cell BK172.out 4).trans rfl; have hcz44_5 : w43.cell? ⟨gb172, 5, none⟩ = some (.int .i64 a1_5) := (blk_cell BK172.out 5).trans rfl; have hcz44_6 : w43.cell? ⟨gb172, 6, none⟩ = some (.int .i64 a1_6) := (blk_cell BK172.out 6).trans rfl; have hcz44_7 : w43.cell? ⟨gb172, 7, none⟩ = some (.bool a1_7) := (blk_cell BK172.out 7).trans rfl; have hcz44_8 : w43.cell? ⟨gb172, 8, none⟩ = some (.string a1_8) := (blk_cell BK172.out 8).trans rfl; have hcz44_9 : w43.cell? ⟨gb172, 9, none⟩ = some (.int .i64 a1_9) := (blk_cell BK172.out 9).trans rfl; have hcz44_10 : w43.cell? ⟨gb172, 10, none⟩ = some (.int .i64 a1_10) := (blk_cell BK172.out 10).trans rfl; have hcz44_11 : w43.cell? ⟨gb172, 11, none⟩ = some (.bool a1_11) := (blk_cell BK172.out 11).trans rfl; have hfz44_0 := blk_frozen BK172.out 0; have hfz44_1 := blk_frozen BK172.out 1; have hfz44_2 := blk_frozen BK172.out 2; have hfz44_3 := blk_frozen BK172.out 3; have hfz44_4 := blk_frozen BK172.out 4; have hfz44_5 := blk_frozen BK172.out 5; have hfz44_6 := blk_frozen BK172.out 6; have hfz44_7 := blk_frozen BK172.out 7; have hfz44_8 := blk_frozen BK172.out 8; have hfz44_9 := blk_frozen BK172.out 9; have hfz44_10 := blk_frozen BK172.out 10; have hfz44_11 := blk_frozen BK172.out 11) | (go_at_call 10; (with_reducible refine (order_Compare.calls kj2 a0 a1_0 a1_1 a1_2 a1_3 a1_0 a1_1 a1_2 a1_3 t180 _ A18.out).mono ?_); rintro e w45 ⟨rfl, hb⟩; have n0_ := Aside0.mk (blk_below (g := gb172) (o := .cells #[.string a1_0, .int .i64 a1_1, .int .i64 a1_2, .bool a1_3, .string a1_4, .int .i64 a1_5, .int .i64 a1_6, .bool a1_7, .string a1_8, .int .i64 a1_9, .int .i64 a1_10, .bool a1_11] 31 (0, 0)) (by (with_reducible repeat (first | refine blk_drewN ?_ _ | refine blk_drew ?_ | refine blk_alloc ?_ _)); exact BK172.out) hb); have n1_ := Aside0.mk (below_step (by repeat (first | (with_reducible first | exact HB.out | apply below_alloc | apply pw_below_drewN | apply below_drew1 | refine below_set ?_ GE172.out) | exact HB.out)) hb); clear BK172; clear HB; have BK172 := n0_; have HB := n1_; clear n0_ n1_; (try clear hb); (try clear hb2); (try clear hk); (try clear hi)))
                go_ret
                exact ⟨by first | rfl | (simp [errW_none, errW_some] <;> rfl) | (simp [*, errW_none, errW_some] <;> rfl), by repeat (first | (with_reducible first | exact HB.out | apply below_alloc | apply pw_below_drewN | apply below_drew1 | refine below_set ?_ GE172.out) | exact HB.out)⟩
          · rw [if_neg c19] at H
            exact absurd H (by simp)
        · rw [if_neg c17] at H
          exact absurd H (by simp)

end Go.Proofs.YtnlbjefhbeocmaaDoor.QOrderCompares
