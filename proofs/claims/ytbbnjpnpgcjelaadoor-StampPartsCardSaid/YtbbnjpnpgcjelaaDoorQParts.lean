-- Made by a program of this session.
import Derived.Test.YtbbnjpnpgcjelaaDoorQAwake
import Derived.Test.YtbbnjpnpgcjelaaDoorQStmD
namespace Go.Proofs.YtbbnjpnpgcjelaaDoor.QStm
open Go.RowKit Go.Proofs.YtbbnjpnpgcjelaaDoorW.PrintWords Go.Proofs.YtbbnjpnpgcjelaaDoorW.PrintLast Go.Proofs.YtbbnjpnpgcjelaaDoorW.PrintMore
attribute [local go_sem] max2_int min2_int max_two min_two max_three min_three max_four min_four   -- for this text's walks alone
set_option linter.unusedVariables false
set_option linter.unusedSimpArgs false

/-! ### domesdaylaw05_StampParts: function 3 -/
def domesdaylaw05_StampParts.l0 : Nat → Int → Int → ByteArray → Int → Int → Int → Int → Int → Int → Int → Int → Option (Bool)
 | 0, _, _, _, _, _, _, _, _, _, _, _ => none
 | k + 1, x0, x1, x6, x130000, x130001, x130002, x130003, x130004, x130005, x130006, x130007 => if (x6.size : Int) < 3 then (if 1 + x6.size ≤ 9223372036854775807 then (domesdaylaw05_StampParts.l0 k x0 x1 ((⟨#[48]⟩ : ByteArray) ++ x6) x130000 x130001 x130002 x130003 x130004 x130005 x130006 x130007) else (none)) else ((domesdaylaw05_awake.f k).bind fun t131 => (if t131 = true then ((stamp_Format.f k (⟨#[37, 70, 32, 37, 84]⟩ : ByteArray) x0 x1).bind fun t132 => ((stamp_Format.f k (⟨#[37, 89, 45, 37, 109, 45, 37, 100, 32, 37, 72, 58, 37, 77, 58, 37, 83]⟩ : ByteArray) x0 x1).bind fun t133 => (if t132.toList = t133.toList then ((stamp_Format.f k (⟨#[37, 89, 32, 37, 106]⟩ : ByteArray) x0 x1).bind fun t134 => ((digits_Dec.f x130000).bind fun t135 => (if t135.size + 1 ≤ 9223372036854775807 then (if t135.size + 1 + x6.size ≤ 9223372036854775807 then (some (t134.toList == ((t135 ++ (⟨#[32]⟩ : ByteArray)) ++ x6).toList)) else (none)) else (none)))) else (none)))) else (none)))
def domesdaylaw05_StampParts.f (k : Nat) (a0 : Int) (a1 : Int) : Option (Bool) := (date_Of.f k a0 a1).bind fun bt121 => ((digits_Dec.f bt121.2.2.2.2.2.2.2).bind fun t130 => (domesdaylaw05_StampParts.l0 k a0 a1 t130 bt121.1 bt121.2.1 bt121.2.2.1 bt121.2.2.2.1 bt121.2.2.2.2.1 bt121.2.2.2.2.2.1 bt121.2.2.2.2.2.2.1 bt121.2.2.2.2.2.2.2))
theorem domesdaylaw05_StampParts.mono_l : ∀ k, (∀ y0 y1 y2 y3 y4 y5 y6 y7 y8 y9 y10, LeO (domesdaylaw05_StampParts.l0 k y0 y1 y2 y3 y4 y5 y6 y7 y8 y9 y10) (domesdaylaw05_StampParts.l0 (k + 1) y0 y1 y2 y3 y4 y5 y6 y7 y8 y9 y10))
 | 0 => fun _ _ _ _ _ _ _ _ _ _ _ r h => by simp [domesdaylaw05_StampParts.l0] at h
 | k + 1 => by
  have ih0 := domesdaylaw05_StampParts.mono_l k
  ·intro y0 y1 y2 y3 y4 y5 y6 y7 y8 y9 y10
   unfold domesdaylaw05_StampParts.l0
   repeat' first
   | (with_reducible exact ih0 _ _ _ _ _ _ _ _ _ _ _)
   | (with_reducible exact date_Of.mono _ _ _)
   | (with_reducible exact domesdaylaw05_awake.mono _)
   | (with_reducible exact stamp_Format.mono _ _ _ _)
   | (with_reducible exact LeO.refl _)
   | (with_reducible exact LeO.none _)
   | (with_reducible refine LeO.ite ?_ ?_)
   | (with_reducible refine LeO.bind ?_ (fun _ => ?_))
   | exact ih0 _ _ _ _ _ _ _ _ _ _ _
   | exact date_Of.mono _ _ _
   | exact domesdaylaw05_awake.mono _
   | exact stamp_Format.mono _ _ _ _
   | exact LeO.none _
   | refine LeO.ite ?_ ?_
   | refine LeO.bind ?_ (fun _ => ?_)
theorem domesdaylaw05_StampParts.mono : ∀ a0 a1 k, LeO (domesdaylaw05_StampParts.f k a0 a1) (domesdaylaw05_StampParts.f (k + 1) a0 a1) := by
 intro a0 a1 k
 have ih0 := domesdaylaw05_StampParts.mono_l k
 unfold domesdaylaw05_StampParts.f
 repeat' first
   | (with_reducible exact ih0 _ _ _ _ _ _ _ _ _ _ _)
   | (with_reducible exact date_Of.mono _ _ _)
   | (with_reducible exact domesdaylaw05_awake.mono _)
   | (with_reducible exact stamp_Format.mono _ _ _ _)
   | (with_reducible exact LeO.refl _)
   | (with_reducible exact LeO.none _)
   | (with_reducible refine LeO.ite ?_ ?_)
   | (with_reducible refine LeO.bind ?_ (fun _ => ?_))
   | exact ih0 _ _ _ _ _ _ _ _ _ _ _
   | exact date_Of.mono _ _ _
   | exact domesdaylaw05_awake.mono _
   | exact stamp_Format.mono _ _ _ _
   | exact LeO.none _
   | refine LeO.ite ?_ ?_
   | refine LeO.bind ?_ (fun _ => ?_)
def domesdaylaw05_StampParts.T5 : Bool × List (List Nat × List Nat) := (true, [([], []), ([0, 0], [0]), ([1], [1]), ([1], [1]), ([2, 3, 1, 1], [1, 2, 3]), ([1], [1]), ([1], [1]), ([5, 6, 4, 1], [1, 5, 6]), ([4, 7, 1], [1, 4, 7]), ([1, 8], [1, 8]), ([9, 7], [9]), ([10], [10]), ([10], [10]), ([11, 12, 10, 10], [10, 11, 12]), ([10], [10]), ([14, 10], [10, 14]), ([15, 13, 10], [10, 15]), ([16, 10], [10, 16]), ([10], [10]), ([17, 18, 10], [10, 17, 18]), ([13, 19, 10], [10, 13, 19]), ([10, 20], [10, 20]), ([21, 16, 0, 1, 2, 3, 4, 5, 6, 7, 8, 9, 10, 11, 12, 13, 14, 15, 16, 17, 18, 19, 20, 21], [21])])
def domesdaylaw05_StampParts.B5 : List Nat := [0, 1, 3, 3, 15, 3, 3, 127, 255, 511, 1023, 2047, 2047, 8191, 2047, 18431, 65535, 131071, 2047, 524287, 1048575, 2097151, 4194303]
theorem domesdaylaw05_StampParts.tab5 : rtab .any (opsOf Tryd.f3 5) = domesdaylaw05_StampParts.T5 := by kernel_rfl
theorem domesdaylaw05_StampParts.bits5 : waitsOk domesdaylaw05_StampParts.T5.2 domesdaylaw05_StampParts.B5 = true := by kernel_rfl
set_option maxHeartbeats 8000000 in
set_option maxRecDepth 100000 in
theorem domesdaylaw05_StampParts.calls (k : Nat) (a0 : Int) (a1 : Int) (r : Bool) (w : World) (h : domesdaylaw05_StampParts.f k a0 a1 = some r) (HE : Env w) :
  Calls Tryd.prog 3 #[.int .i64 a0, .int .i64 a1] w fun e w' => e = .returned (.bool r) ∧ Below w.heap.size w w' := by
 have HEE := Aside0.mk HE
 clear HE
 have hu23 := Tryd.underlying23
 have HB := Aside0.mk (Below.refl w.heap.size w)
 have H : ((date_Of.f k a0 a1).bind fun bt121 => ((digits_Dec.f bt121.2.2.2.2.2.2.2).bind fun t130 => (domesdaylaw05_StampParts.l0 k a0 a1 t130 bt121.1 bt121.2.1 bt121.2.2.1 bt121.2.2.2.1 bt121.2.2.2.2.1 bt121.2.2.2.2.2.1 bt121.2.2.2.2.2.2.1 bt121.2.2.2.2.2.2.2))) = some r := h
 clear h
 replace H := Option.bind_eq_some_iff.mp H
 obtain ⟨⟨t121, t122, t123, t124, t125, t126, t127, t128⟩, A30, H⟩ := H
 replace H : ((digits_Dec.f t128).bind fun t130 => (domesdaylaw05_StampParts.l0 k a0 a1 t130 t121 t122 t123 t124 t125 t126 t127 t128)) = some r := H
 have A3 := Aside0.mk A30
 clear A30
 replace H := Option.bind_eq_some_iff.mp H
 obtain ⟨t130, A40, H⟩ := H
 replace H : (domesdaylaw05_StampParts.l0 k a0 a1 t130 t121 t122 t123 t124 t125 t126 t127 t128) = some r := H
 have A4 := Aside0.mk A40
 clear A40
 have H' := Aside0.mk H
 clear H
 go_enter Tryd.func3, Tryd.ntmps3
 go_wp2_with (first | ((with_reducible refine gate_callee (f := 7) rfl ?_); refine goesL_ (some 9) rfl rfl Tryd.func7 (by kernel_rfl) rfl #[.int .i64 a0, .int .i64 a1] rfl (by (try simp only [List.map_toArray, List.map_cons, List.map_nil]); first | done | rfl | (simp only [List.length_drop, List.length_take]; rfl)) ?_; (with_reducible refine (date_Of.calls k a0 a1 t121 t122 t123 t124 t125 t126 t127 t128 _ A3.out).mono ?_); rintro e w5 ⟨rfl, hb⟩; refine ⟨_, rfl, ?_⟩; have n0_ := Aside0.mk (below_step (by repeat (first | (with_reducible first | exact HB.out | apply below_alloc | apply pw_below_drewN | apply below_drew1) | exact HB.out)) hb); clear HB; have HB := n0_; clear n0_; (try clear hb); (try clear hb2); (try clear hk); (try clear hi)) | ((with_reducible refine gate_dst (N := 5) rfl ?_); refine box_event ?hg (N := 5) ?hd (cs := #[.int .i64 0, .int .i64 0, .int .i64 0, .int .i64 0, .int .i64 0, .int .i64 0, .int .i64 0, .int .i64 0]) (t := 23) ?hr ?_; (case hd => rfl); (case hg => rfl); (case hr => first | (go_simp; done) | (go_simp; rfl)); intro gb129 hg w6 hbox hb; have n0_ := Aside0.mk (below_step (by repeat (first | (with_reducible first | exact HB.out | apply below_alloc | apply pw_below_drewN | apply below_drew1) | exact HB.out)) hb); have n1_ := Aside0.mk (hbox); have n2_ := Aside0.mk ((by rw [hg]; exact (below_size (by repeat (first | (with_reducible first | exact HB.out | apply below_alloc | apply pw_below_drewN | apply below_drew1) | exact HB.out))) : w.heap.size ≤ gb129)); have n3_ := Aside0.mk ((by rw [hg]; exact (below_size (by repeat (first | (with_reducible first | exact HB.out | apply below_alloc | apply pw_below_drewN | apply below_drew1) | exact HB.out))) : w.heap.size ≤ gb129)); clear HB; have HB := n0_; have BK129 := n1_; have GW129 := n2_; have GE129 := n3_; clear n0_ n1_ n2_ n3_; clear hb hbox hg; have hcz7_0 : w6.cell? ⟨gb129, 0, none⟩ = some (.int .i64 0) := (blk_cell BK129.out 0).trans rfl; have hcz7_1 : w6.cell? ⟨gb129, 1, none⟩ = some (.int .i64 0) := (blk_cell BK129.out 1).trans rfl; have hcz7_2 : w6.cell? ⟨gb129, 2, none⟩ = some (.int .i64 0) := (blk_cell BK129.out 2).trans rfl; have hcz7_3 : w6.cell? ⟨gb129, 3, none⟩ = some (.int .i64 0) := (blk_cell BK129.out 3).trans rfl; have hcz7_4 : w6.cell? ⟨gb129, 4, none⟩ = some (.int .i64 0) := (blk_cell BK129.out 4).trans rfl; have hcz7_5 : w6.cell? ⟨gb129, 5, none⟩ = some (.int .i64 0) := (blk_cell BK129.out 5).trans rfl; have hcz7_6 : w6.cell? ⟨gb129, 6, none⟩ = some (.int .i64 0) := (blk_cell BK129.out 6).trans rfl; have hcz7_7 : w6.cell? ⟨gb129, 7, none⟩ = some (.int .i64 0) := (blk_cell BK129.out 7).trans rfl; have hfz7_0 := blk_frozen BK129.out 0; have hfz7_1 := blk_frozen BK129.out 1; have hfz7_2 := blk_frozen BK129.out 2; have hfz7_3 := blk_frozen BK129.out 3; have hfz7_4 := blk_frozen BK129.out 4; have hfz7_5 := blk_frozen BK129.out 5; have hfz7_6 := blk_frozen BK129.out 6; have hfz7_7 := blk_frozen BK129.out 7) | ((with_reducible refine gate_store (t := 23) (p := 5) rfl ?_); refine store_event (t := 23) (p := 5) (v := ?vo_w8) (w1 := ((((((((w6.setCell ⟨gb129, 0, none⟩ (.int .i64 t121)).setCell ⟨gb129, 1, none⟩ (.int .i64 t122)).setCell ⟨gb129, 2, none⟩ (.int .i64 t123)).setCell ⟨gb129, 3, none⟩ (.int .i64 t124)).setCell ⟨gb129, 4, none⟩ (.int .i64 t125)).setCell ⟨gb129, 5, none⟩ (.int .i64 t126)).setCell ⟨gb129, 6, none⟩ (.int .i64 t127)).setCell ⟨gb129, 7, none⟩ (.int .i64 t128))) ?hg ?ho ?hn ?hr ?_; (case ho => rfl); (case hg => rfl); (case hn => rfl); (case hr => first | (go_simp; done) | (go_simp; rfl)); intro w8 hw; have n0_ : Aside0 (w8.heap[gb129]? = some (.cells #[.int .i64 t121, .int .i64 t122, .int .i64 t123, .int .i64 t124, .int .i64 t125, .int .i64 t126, .int .i64 t127, .int .i64 t128] 23 (0, 0))) := ⟨(by rw [hw]; exact (by (with_reducible repeat (first | refine blk_drewN ?_ _ | refine blk_drew ?_ | refine blk_alloc ?_ _)); refine blk_put (cs := #[.int .i64 t121, .int .i64 t122, .int .i64 t123, .int .i64 t124, .int .i64 t125, .int .i64 t126, .int .i64 t127, .int .i64 0]) ?_ 7 _ (by first | rfl | (simp; done)); (with_reducible repeat (first | refine blk_drewN ?_ _ | refine blk_drew ?_ | refine blk_alloc ?_ _)); refine blk_put (cs := #[.int .i64 t121, .int .i64 t122, .int .i64 t123, .int .i64 t124, .int .i64 t125, .int .i64 t126, .int .i64 0, .int .i64 0]) ?_ 6 _ (by first | rfl | (simp; done)); (with_reducible repeat (first | refine blk_drewN ?_ _ | refine blk_drew ?_ | refine blk_alloc ?_ _)); refine blk_put (cs := #[.int .i64 t121, .int .i64 t122, .int .i64 t123, .int .i64 t124, .int .i64 t125, .int .i64 0, .int .i64 0, .int .i64 0]) ?_ 5 _ (by first | rfl | (simp; done)); (with_reducible repeat (first | refine blk_drewN ?_ _ | refine blk_drew ?_ | refine blk_alloc ?_ _)); refine blk_put (cs := #[.int .i64 t121, .int .i64 t122, .int .i64 t123, .int .i64 t124, .int .i64 0, .int .i64 0, .int .i64 0, .int .i64 0]) ?_ 4 _ (by first | rfl | (simp; done)); (with_reducible repeat (first | refine blk_drewN ?_ _ | refine blk_drew ?_ | refine blk_alloc ?_ _)); refine blk_put (cs := #[.int .i64 t121, .int .i64 t122, .int .i64 t123, .int .i64 0, .int .i64 0, .int .i64 0, .int .i64 0, .int .i64 0]) ?_ 3 _ (by first | rfl | (simp; done)); (with_reducible repeat (first | refine blk_drewN ?_ _ | refine blk_drew ?_ | refine blk_alloc ?_ _)); refine blk_put (cs := #[.int .i64 t121, .int .i64 t122, .int .i64 0, .int .i64 0, .int .i64 0, .int .i64 0, .int .i64 0, .int .i64 0]) ?_ 2 _ (by first | rfl | (simp; done)); (with_reducible repeat (first | refine blk_drewN ?_ _ | refine blk_drew ?_ | refine blk_alloc ?_ _)); refine blk_put (cs := #[.int .i64 t121, .int .i64 0, .int .i64 0, .int .i64 0, .int .i64 0, .int .i64 0, .int .i64 0, .int .i64 0]) ?_ 1 _ (by first | rfl | (simp; done)); (with_reducible repeat (first | refine blk_drewN ?_ _ | refine blk_drew ?_ | refine blk_alloc ?_ _)); refine blk_put (cs := #[.int .i64 0, .int .i64 0, .int .i64 0, .int .i64 0, .int .i64 0, .int .i64 0, .int .i64 0, .int .i64 0]) ?_ 0 _ (by first | rfl | (simp; done)); (with_reducible repeat (first | refine blk_drewN ?_ _ | refine blk_drew ?_ | refine blk_alloc ?_ _)); exact BK129.out))⟩; have n1_ : Aside0 (Below w.heap.size w w8) := ⟨(by rw [hw]; exact (by repeat (first | (with_reducible first | exact HB.out | apply below_alloc | apply pw_below_drewN | apply below_drew1 | refine below_set ?_ GE129.out) | exact HB.out)))⟩; clear hw; clear BK129; clear HB; have BK129 := n0_; have HB := n1_; clear n0_ n1_; have hcz9_0 : w8.cell? ⟨gb129, 0, none⟩ = some (.int .i64 t121) := (blk_cell BK129.out 0).trans rfl; have hcz9_1 : w8.cell? ⟨gb129, 1, none⟩ = some (.int .i64 t122) := (blk_cell BK129.out 1).trans rfl; have hcz9_2 : w8.cell? ⟨gb129, 2, none⟩ = some (.int .i64 t123) := (blk_cell BK129.out 2).trans rfl; have hcz9_3 : w8.cell? ⟨gb129, 3, none⟩ = some (.int .i64 t124) := (blk_cell BK129.out 3).trans rfl; have hcz9_4 : w8.cell? ⟨gb129, 4, none⟩ = some (.int .i64 t125) := (blk_cell BK129.out 4).trans rfl; have hcz9_5 : w8.cell? ⟨gb129, 5, none⟩ = some (.int .i64 t126) := (blk_cell BK129.out 5).trans rfl; have hcz9_6 : w8.cell? ⟨gb129, 6, none⟩ = some (.int .i64 t127) := (blk_cell BK129.out 6).trans rfl; have hcz9_7 : w8.cell? ⟨gb129, 7, none⟩ = some (.int .i64 t128) := (blk_cell BK129.out 7).trans rfl; have hfz9_0 := blk_frozen BK129.out 0; have hfz9_1 := blk_frozen BK129.out 1; have hfz9_2 := blk_frozen BK129.out 2; have hfz9_3 := blk_frozen BK129.out 3; have hfz9_4 := blk_frozen BK129.out 4; have hfz9_5 := blk_frozen BK129.out 5; have hfz9_6 := blk_frozen BK129.out 6; have hfz9_7 := blk_frozen BK129.out 7) | ((with_reducible refine gate_callee (f := 8) rfl ?_); refine goesL_ (some 12) rfl rfl Tryd.func8 (by kernel_rfl) rfl #[.int .i64 t128] rfl (by (try simp only [List.map_toArray, List.map_cons, List.map_nil]); first | done | rfl | (simp only [List.length_drop, List.length_take]; rfl)) ?_; (with_reducible refine (digits_Dec.calls t128 t130 _ A4.out (Env.below HEE.out (by repeat (first | (with_reducible first | exact HB.out | apply below_alloc | apply pw_below_drewN | apply below_drew1 | refine below_set ?_ GE129.out) | exact HB.out)))).mono ?_); rintro e w10 ⟨rfl, hb⟩; refine ⟨_, rfl, ?_⟩; have n0_ := Aside0.mk (blk_below (g := gb129) (o := .cells #[.int .i64 t121, .int .i64 t122, .int .i64 t123, .int .i64 t124, .int .i64 t125, .int .i64 t126, .int .i64 t127, .int .i64 t128] 23 (0, 0)) (by (with_reducible repeat (first | refine blk_drewN ?_ _ | refine blk_drew ?_ | refine blk_alloc ?_ _)); exact BK129.out) hb); have n1_ := Aside0.mk (below_step (by repeat (first | (with_reducible first | exact HB.out | apply below_alloc | apply pw_below_drewN | apply below_drew1 | refine below_set ?_ GE129.out) | exact HB.out)) hb); clear BK129; clear HB; have BK129 := n0_; have HB := n1_; clear n0_ n1_; (try clear hb); (try clear hb2); (try clear hk); (try clear hi)))
 go_loopg [6] k (fun kq v6 w' => ∃ (x6_1 : ByteArray), v6 = .string x6_1 ∧ Aside0 (domesdaylaw05_StampParts.l0 kq a0 a1 x6_1 t121 t122 t123 t124 t125 t126 t127 t128 = some r) ∧ Aside0 (kq ≤ k) ∧ Aside0 (w'.heap[gb129]? = some (.cells #[.int .i64 t121, .int .i64 t122, .int .i64 t123, .int .i64 t124, .int .i64 t125, .int .i64 t126, .int .i64 t127, .int .i64 t128] 23 (0, 0))) ∧ Aside0 (Below w.heap.size w w'))
 case atStart => exact ⟨(t130), (by first | rfl | (simp; done) | (simp [*]; done)), H', ⟨Nat.le_refl _⟩, ⟨by (with_reducible repeat (first | refine blk_drewN ?_ _ | refine blk_drew ?_ | refine blk_alloc ?_ _)); exact BK129.out⟩, ⟨by repeat (first | (with_reducible first | exact HB.out | apply below_alloc | apply pw_below_drewN | apply below_drew1 | refine below_set ?_ GE129.out) | exact HB.out)⟩⟩
 case round =>
  clear H'
  (try clear p2); (try clear c3); (try clear c7); (try clear c8); (try clear hcz7_0); (try clear hcz7_1); (try clear hcz7_2); (try clear hcz7_3); (try clear hcz7_4); (try clear hcz7_5); (try clear hcz7_6); (try clear hcz7_7); (try clear hcz9_0); (try clear hcz9_1); (try clear hcz9_2); (try clear hcz9_3); (try clear hcz9_4); (try clear hcz9_5); (try clear hcz9_6); (try clear hcz9_7); (try clear hfz7_0); (try clear hfz7_1); (try clear hfz7_2); (try clear hfz7_3); (try clear hfz7_4); (try clear hfz7_5); (try clear hfz7_6); (try clear hfz7_7); (try clear hfz9_0); (try clear hfz9_1); (try clear hfz9_2); (try clear hfz9_3); (try clear hfz9_4); (try clear hfz9_5); (try clear hfz9_6); (try clear hfz9_7)
  obtain ⟨x6_1, rfl, HA, HK1, BK129, HB⟩ := hrel
  cases gk with
  | zero => exact absurd HA.out (by simp [domesdaylaw05_StampParts.l0])
  | succ k1 =>
   have H := HA.out
   clear HA
   simp only [domesdaylaw05_StampParts.l0] at H
   by_cases c11 : (x6_1.size : Int) < 3
   ·rw [if_pos c11] at H
    have c11b0 : decide ((x6_1.size : Int) < 3) = true := decide_eq_true c11
    have c11b1 : decide (x6_1.size < 3) = true := decide_eq_true (by omega)
    clear c11
    by_cases c12 : 1 + x6_1.size ≤ 9223372036854775807
    ·rw [if_pos c12] at H
     have c12b0 := eq_true c12
     have c12b1 : decide (1 + x6_1.size ≤ 9223372036854775807) = true := decide_eq_true c12
     try have c12b2 : (9223372036854775807 < 1 + x6_1.size) = False := eq_false (Nat.not_lt.2 c12)
     have H' := Aside0.mk H
     clear H
     go_wp2
     go_roundg k1
     case measure => have := HK1.out; omega
     case rel => exact ⟨((⟨#[48]⟩ : ByteArray) ++ x6_1), (by first | rfl | (simp; done) | (simp [*]; done)), H', ⟨by have := HK1.out; omega⟩, ⟨by (with_reducible repeat (first | refine blk_drewN ?_ _ | refine blk_drew ?_ | refine blk_alloc ?_ _)); exact BK129.out⟩, ⟨by repeat (first | (with_reducible first | exact HB.out | apply below_alloc | apply pw_below_drewN | apply below_drew1 | refine below_set ?_ GE129.out) | exact HB.out)⟩⟩
    ·rw [if_neg c12] at H
     exact absurd H (by simp)
   ·rw [if_neg c11] at H
    have c11b0 : decide ((x6_1.size : Int) < 3) = false := decide_eq_false c11
    have c11b1 : decide (x6_1.size < 3) = false := decide_eq_false (by omega)
    clear c11
    replace H := Option.bind_eq_some_iff.mp H
    obtain ⟨t131, A130, H⟩ := H
    replace H : (if t131 = true then ((stamp_Format.f k1 (⟨#[37, 70, 32, 37, 84]⟩ : ByteArray) a0 a1).bind fun t132 => ((stamp_Format.f k1 (⟨#[37, 89, 45, 37, 109, 45, 37, 100, 32, 37, 72, 58, 37, 77, 58, 37, 83]⟩ : ByteArray) a0 a1).bind fun t133 => (if t132.toList = t133.toList then ((stamp_Format.f k1 (⟨#[37, 89, 32, 37, 106]⟩ : ByteArray) a0 a1).bind fun t134 => ((digits_Dec.f t121).bind fun t135 => (if t135.size + 1 ≤ 9223372036854775807 then (if t135.size + 1 + x6_1.size ≤ 9223372036854775807 then (some (t134.toList == ((t135 ++ (⟨#[32]⟩ : ByteArray)) ++ x6_1).toList)) else (none)) else (none)))) else (none)))) else (none)) = some r := H
    have A13 := Aside0.mk A130
    clear A130
    by_cases c14 : t131 = true
    ·subst c14
     have H1 : ((stamp_Format.f k1 (⟨#[37, 70, 32, 37, 84]⟩ : ByteArray) a0 a1).bind fun t132 => ((stamp_Format.f k1 (⟨#[37, 89, 45, 37, 109, 45, 37, 100, 32, 37, 72, 58, 37, 77, 58, 37, 83]⟩ : ByteArray) a0 a1).bind fun t133 => (if t132.toList = t133.toList then ((stamp_Format.f k1 (⟨#[37, 89, 32, 37, 106]⟩ : ByteArray) a0 a1).bind fun t134 => ((digits_Dec.f t121).bind fun t135 => (if t135.size + 1 ≤ 9223372036854775807 then (if t135.size + 1 + x6_1.size ≤ 9223372036854775807 then (some (t134.toList == ((t135 ++ (⟨#[32]⟩ : ByteArray)) ++ x6_1).toList)) else (none)) else (none)))) else (none)))) = some r := by rw [if_pos rfl] at H; exact H
     clear H
     have H := H1
     clear H1
     replace H := Option.bind_eq_some_iff.mp H
     obtain ⟨t132, A150, H⟩ := H
     replace H : ((stamp_Format.f k1 (⟨#[37, 89, 45, 37, 109, 45, 37, 100, 32, 37, 72, 58, 37, 77, 58, 37, 83]⟩ : ByteArray) a0 a1).bind fun t133 => (if t132.toList = t133.toList then ((stamp_Format.f k1 (⟨#[37, 89, 32, 37, 106]⟩ : ByteArray) a0 a1).bind fun t134 => ((digits_Dec.f t121).bind fun t135 => (if t135.size + 1 ≤ 9223372036854775807 then (if t135.size + 1 + x6_1.size ≤ 9223372036854775807 then (some (t134.toList == ((t135 ++ (⟨#[32]⟩ : ByteArray)) ++ x6_1).toList)) else (none)) else (none)))) else (none))) = some r := H
     have A15 := Aside0.mk A150
     clear A150
     replace H := Option.bind_eq_some_iff.mp H
     obtain ⟨t133, A160, H⟩ := H
     replace H : (if t132.toList = t133.toList then ((stamp_Format.f k1 (⟨#[37, 89, 32, 37, 106]⟩ : ByteArray) a0 a1).bind fun t134 => ((digits_Dec.f t121).bind fun t135 => (if t135.size + 1 ≤ 9223372036854775807 then (if t135.size + 1 + x6_1.size ≤ 9223372036854775807 then (some (t134.toList == ((t135 ++ (⟨#[32]⟩ : ByteArray)) ++ x6_1).toList)) else (none)) else (none)))) else (none)) = some r := H
     have A16 := Aside0.mk A160
     clear A160
     by_cases c17 : t132.toList = t133.toList
     ·rw [if_pos c17] at H
      have c17b0 : (t132.toList == t133.toList) = true := beq_iff_eq.mpr c17
      have c17b1 : (t132.toList != t133.toList) = false := bne_eq_false_iff_eq.mpr c17
      clear c17
      replace H := Option.bind_eq_some_iff.mp H
      obtain ⟨t134, A180, H⟩ := H
      replace H : ((digits_Dec.f t121).bind fun t135 => (if t135.size + 1 ≤ 9223372036854775807 then (if t135.size + 1 + x6_1.size ≤ 9223372036854775807 then (some (t134.toList == ((t135 ++ (⟨#[32]⟩ : ByteArray)) ++ x6_1).toList)) else (none)) else (none))) = some r := H
      have A18 := Aside0.mk A180
      clear A180
      replace H := Option.bind_eq_some_iff.mp H
      obtain ⟨t135, A190, H⟩ := H
      replace H : (if t135.size + 1 ≤ 9223372036854775807 then (if t135.size + 1 + x6_1.size ≤ 9223372036854775807 then (some (t134.toList == ((t135 ++ (⟨#[32]⟩ : ByteArray)) ++ x6_1).toList)) else (none)) else (none)) = some r := H
      have A19 := Aside0.mk A190
      clear A190
      by_cases c20 : t135.size + 1 ≤ 9223372036854775807
      ·rw [if_pos c20] at H
       have c20b0 := eq_true c20
       have c20b1 : decide (t135.size + 1 ≤ 9223372036854775807) = true := decide_eq_true c20
       try have c20b2 : (9223372036854775807 < t135.size + 1) = False := eq_false (Nat.not_lt.2 c20)
       by_cases c21 : t135.size + 1 + x6_1.size ≤ 9223372036854775807
       ·rw [if_pos c21] at H
        have c21b0 := eq_true c21
        have c21b1 : decide (t135.size + 1 + x6_1.size ≤ 9223372036854775807) = true := decide_eq_true c21
        try have c21b2 : (9223372036854775807 < t135.size + 1 + x6_1.size) = False := eq_false (Nat.not_lt.2 c21)
        obtain rfl := Option.some.inj H
        try go_wp2
        have n0_ := Aside0.mk (blk_drew BK129.out)
        have n1_ := Aside0.mk (below_drew1 HB.out)
        clear BK129
        clear HB
        have BK129 := n0_
        have HB := n1_
        clear n0_ n1_
        refine start_ (n := 23) (S := fun w' => w'.cell? ⟨gb129, 0, none⟩ = some (.int .i64 t121) ∧ w'.cell? ⟨gb129, 1, none⟩ = some (.int .i64 t122) ∧ w'.cell? ⟨gb129, 2, none⟩ = some (.int .i64 t123) ∧ w'.cell? ⟨gb129, 3, none⟩ = some (.int .i64 t124) ∧ w'.cell? ⟨gb129, 4, none⟩ = some (.int .i64 t125) ∧ w'.cell? ⟨gb129, 5, none⟩ = some (.int .i64 t126) ∧ w'.cell? ⟨gb129, 6, none⟩ = some (.int .i64 t127) ∧ w'.cell? ⟨gb129, 7, none⟩ = some (.int .i64 t128)) (ds := []) #[false, false, false, false, false, false, false, false, false, false, false, false, false, false, false, false, false, false, false, false, false, false, false] (by kernel_rfl) rfl rfl ⟨(blk_cell BK129.out 0).trans rfl, (blk_cell BK129.out 1).trans rfl, (blk_cell BK129.out 2).trans rfl, (blk_cell BK129.out 3).trans rfl, (blk_cell BK129.out 4).trans rfl, (blk_cell BK129.out 5).trans rfl, (blk_cell BK129.out 6).trans rfl, (blk_cell BK129.out 7).trans rfl⟩ (fun hHeld => ?_); refine with_tabW domesdaylaw05_StampParts.tab5 domesdaylaw05_StampParts.bits5 (fun HT_ HW_ => ?_)
        generalize wr.drew = w22 at BK129 HB hHeld ⊢
        refine one_ (i := 0) (N := some 18) #[true, false, false, false, false, false, false, false, false, false, false, false, false, false, false, false, false, false, false, false, false, false, false] rfl rfl (one_of HT_.out (by kernel_rfl)) (by decide) (fun K hK => ?_)
        refine goes_ Tryd.func9 (by kernel_rfl) rfl #[] (by rfl) rfl rfl (by (try simp only [List.map_toArray, List.map_cons, List.map_nil]); first | done | rfl | (simp only [List.length_drop, List.length_take]; rfl)) ?_
        with_reducible refine (domesdaylaw05_awake.calls k1  true _ A13.out (Env.below HEE.out (by repeat (first | (with_reducible first | exact HB.out | apply below_alloc | apply pw_below_drewN | apply below_drew1 | refine below_set ?_ GE129.out) | exact HB.out)))).mono ?_
        rintro e w23 ⟨rfl, hb⟩
        refine ⟨_, rfl, ?_⟩
        have n0_ := Aside0.mk (blk_below (g := gb129) (o := .cells #[.int .i64 t121, .int .i64 t122, .int .i64 t123, .int .i64 t124, .int .i64 t125, .int .i64 t126, .int .i64 t127, .int .i64 t128] 23 (0, 0)) (by (with_reducible repeat (first | refine blk_drewN ?_ _ | refine blk_drew ?_ | refine blk_alloc ?_ _)); exact BK129.out) hb)
        have n1_ := Aside0.mk (below_step (by repeat (first | (with_reducible first | exact HB.out | apply below_alloc | apply pw_below_drewN | apply below_drew1 | refine below_set ?_ GE129.out) | exact HB.out)) hb)
        clear BK129
        clear HB
        have BK129 := n0_
        have HB := n1_
        clear n0_ n1_
        (try clear hb)
        (try clear hb2)
        (try clear hk)
        (try clear hi)
        refine hK.out _ _ ⟨(blk_cell BK129.out 0).trans rfl, (blk_cell BK129.out 1).trans rfl, (blk_cell BK129.out 2).trans rfl, (blk_cell BK129.out 3).trans rfl, (blk_cell BK129.out 4).trans rfl, (blk_cell BK129.out 5).trans rfl, (blk_cell BK129.out 6).trans rfl, (blk_cell BK129.out 7).trans rfl⟩ (fun hHeld => ?_)
        clear hK K
        refine norm_ (a' := ?_) ?_ ?_
        rotate_left
        ·show Act.put _ (some 18) _ = _
         simp only [Act.put, List.setIfInBounds_toArray, List.set_cons_zero, List.set_cons_succ, i64_w, i32_w]
         rfl
        refine pure_ (i := 1) (N := some 19) (v := ?_) (a' := ?_) #[true, true, false, false, false, false, false, false, false, false, false, false, false, false, false, false, false, false, false, false, false, false, false] rfl rfl (any_of HT_.out (by kernel_rfl)) (fun _ _ _ h => h) (Or.inl ⟨by rfl, ?_⟩) ?_ ?_
        rotate_left
        ·intro w'
         go_simp
         with_reducible rfl
        rotate_left
        ·simp only [Act.put, List.setIfInBounds_toArray, List.set_cons_zero, List.set_cons_succ, i64_w, i32_w]
         rfl
        refine pure_ (i := 2) (N := some 20) (v := ?_) (a' := ?_) #[true, true, true, false, false, false, false, false, false, false, false, false, false, false, false, false, false, false, false, false, false, false, false] rfl rfl (any_of HT_.out (by kernel_rfl)) (fun _ _ _ h => h) (Or.inl ⟨by rfl, ?_⟩) ?_ ?_
        rotate_left
        ·intro w'
         go_simp
         with_reducible rfl
        rotate_left
        ·simp only [Act.put, List.setIfInBounds_toArray, List.set_cons_zero, List.set_cons_succ, i64_w, i32_w]
         rfl
        refine pure_ (i := 3) (N := some 21) (v := ?_) (a' := ?_) #[true, true, true, true, false, false, false, false, false, false, false, false, false, false, false, false, false, false, false, false, false, false, false] rfl rfl (any_of HT_.out (by kernel_rfl)) (fun _ _ _ h => h) (Or.inl ⟨by rfl, ?_⟩) ?_ ?_
        rotate_left
        ·intro w'
         go_simp
         with_reducible rfl
        rotate_left
        ·simp only [Act.put, List.setIfInBounds_toArray, List.set_cons_zero, List.set_cons_succ, i64_w, i32_w]
         rfl
        refine pure_ (i := 5) (N := some 23) (v := ?_) (a' := ?_) #[true, true, true, true, false, true, false, false, false, false, false, false, false, false, false, false, false, false, false, false, false, false, false] rfl rfl (any_of HT_.out (by kernel_rfl)) (fun _ _ _ h => h) (Or.inl ⟨by rfl, ?_⟩) ?_ ?_
        rotate_left
        ·intro w'
         go_simp
         with_reducible rfl
        rotate_left
        ·simp only [Act.put, List.setIfInBounds_toArray, List.set_cons_zero, List.set_cons_succ, i64_w, i32_w]
         rfl
        refine pure_ (i := 6) (N := some 24) (v := ?_) (a' := ?_) #[true, true, true, true, false, true, true, false, false, false, false, false, false, false, false, false, false, false, false, false, false, false, false] rfl rfl (any_of HT_.out (by kernel_rfl)) (fun _ _ _ h => h) (Or.inl ⟨by rfl, ?_⟩) ?_ ?_
        rotate_left
        ·intro w'
         go_simp
         with_reducible rfl
        rotate_left
        ·simp only [Act.put, List.setIfInBounds_toArray, List.set_cons_zero, List.set_cons_succ, i64_w, i32_w]
         rfl
        refine one_ (i := 4) (N := some 22) #[true, true, true, true, true, true, true, false, false, false, false, false, false, false, false, false, false, false, false, false, false, false, false] rfl rfl (one_of HT_.out (by kernel_rfl)) (by decide) (fun K hK => ?_)
        refine goes_ Tryd.func10 (by kernel_rfl) rfl #[.string (⟨#[37, 70, 32, 37, 84]⟩ : ByteArray), .int .i64 a0, .int .i64 a1] (by rfl) rfl rfl (by (try simp only [List.map_toArray, List.map_cons, List.map_nil]); first | done | rfl | (simp only [List.length_drop, List.length_take]; rfl)) ?_
        with_reducible refine (stamp_Format.calls k1 (⟨#[37, 70, 32, 37, 84]⟩ : ByteArray) a0 a1 t132 _ A15.out (Env.below HEE.out (by repeat (first | (with_reducible first | exact HB.out | apply below_alloc | apply pw_below_drewN | apply below_drew1 | refine below_set ?_ GE129.out) | exact HB.out)))).mono ?_
        rintro e w24 ⟨rfl, hb⟩
        refine ⟨_, rfl, ?_⟩
        have n0_ := Aside0.mk (blk_below (g := gb129) (o := .cells #[.int .i64 t121, .int .i64 t122, .int .i64 t123, .int .i64 t124, .int .i64 t125, .int .i64 t126, .int .i64 t127, .int .i64 t128] 23 (0, 0)) (by (with_reducible repeat (first | refine blk_drewN ?_ _ | refine blk_drew ?_ | refine blk_alloc ?_ _)); exact BK129.out) hb)
        have n1_ := Aside0.mk (below_step (by repeat (first | (with_reducible first | exact HB.out | apply below_alloc | apply pw_below_drewN | apply below_drew1 | refine below_set ?_ GE129.out) | exact HB.out)) hb)
        clear BK129
        clear HB
        have BK129 := n0_
        have HB := n1_
        clear n0_ n1_
        (try clear hb)
        (try clear hb2)
        (try clear hk)
        (try clear hi)
        refine hK.out _ _ ⟨(blk_cell BK129.out 0).trans rfl, (blk_cell BK129.out 1).trans rfl, (blk_cell BK129.out 2).trans rfl, (blk_cell BK129.out 3).trans rfl, (blk_cell BK129.out 4).trans rfl, (blk_cell BK129.out 5).trans rfl, (blk_cell BK129.out 6).trans rfl, (blk_cell BK129.out 7).trans rfl⟩ (fun hHeld => ?_)
        clear hK K
        refine norm_ (a' := ?_) ?_ ?_
        rotate_left
        ·show Act.put _ (some 22) _ = _
         simp only [Act.put, List.setIfInBounds_toArray, List.set_cons_zero, List.set_cons_succ, i64_w, i32_w]
         rfl
        refine one_ (i := 7) (N := some 25) #[true, true, true, true, true, true, true, true, false, false, false, false, false, false, false, false, false, false, false, false, false, false, false] rfl rfl (one_of HT_.out (by kernel_rfl)) (by decide) (fun K hK => ?_)
        refine goes_ Tryd.func10 (by kernel_rfl) rfl #[.string (⟨#[37, 89, 45, 37, 109, 45, 37, 100, 32, 37, 72, 58, 37, 77, 58, 37, 83]⟩ : ByteArray), .int .i64 a0, .int .i64 a1] (by rfl) rfl rfl (by (try simp only [List.map_toArray, List.map_cons, List.map_nil]); first | done | rfl | (simp only [List.length_drop, List.length_take]; rfl)) ?_
        with_reducible refine (stamp_Format.calls k1 (⟨#[37, 89, 45, 37, 109, 45, 37, 100, 32, 37, 72, 58, 37, 77, 58, 37, 83]⟩ : ByteArray) a0 a1 t133 _ A16.out (Env.below HEE.out (by repeat (first | (with_reducible first | exact HB.out | apply below_alloc | apply pw_below_drewN | apply below_drew1 | refine below_set ?_ GE129.out) | exact HB.out)))).mono ?_
        rintro e w25 ⟨rfl, hb⟩
        refine ⟨_, rfl, ?_⟩
        have n0_ := Aside0.mk (blk_below (g := gb129) (o := .cells #[.int .i64 t121, .int .i64 t122, .int .i64 t123, .int .i64 t124, .int .i64 t125, .int .i64 t126, .int .i64 t127, .int .i64 t128] 23 (0, 0)) (by (with_reducible repeat (first | refine blk_drewN ?_ _ | refine blk_drew ?_ | refine blk_alloc ?_ _)); exact BK129.out) hb)
        have n1_ := Aside0.mk (below_step (by repeat (first | (with_reducible first | exact HB.out | apply below_alloc | apply pw_below_drewN | apply below_drew1 | refine below_set ?_ GE129.out) | exact HB.out)) hb)
        clear BK129
        clear HB
        have BK129 := n0_
        have HB := n1_
        clear n0_ n1_
        (try clear hb)
        (try clear hb2)
        (try clear hk)
        (try clear hi)
        refine hK.out _ _ ⟨(blk_cell BK129.out 0).trans rfl, (blk_cell BK129.out 1).trans rfl, (blk_cell BK129.out 2).trans rfl, (blk_cell BK129.out 3).trans rfl, (blk_cell BK129.out 4).trans rfl, (blk_cell BK129.out 5).trans rfl, (blk_cell BK129.out 6).trans rfl, (blk_cell BK129.out 7).trans rfl⟩ (fun hHeld => ?_)
        clear hK K
        refine norm_ (a' := ?_) ?_ ?_
        rotate_left
        ·show Act.put _ (some 25) _ = _
         simp only [Act.put, List.setIfInBounds_toArray, List.set_cons_zero, List.set_cons_succ, i64_w, i32_w]
         rfl
        refine pure_ (i := 8) (N := some 26) (v := ?_) (a' := ?_) #[true, true, true, true, true, true, true, true, true, false, false, false, false, false, false, false, false, false, false, false, false, false, false] rfl rfl (any_of HT_.out (by kernel_rfl)) (fun _ _ _ h => h) (Or.inl ⟨by rfl, ?_⟩) ?_ ?_
        rotate_left
        ·intro w'
         go_simp
         with_reducible rfl
        rotate_left
        ·simp only [Act.put, List.setIfInBounds_toArray, List.set_cons_zero, List.set_cons_succ, i64_w, i32_w]
         rfl
        refine pure_ (i := 9) (N := some 27) (v := ?_) (a' := ?_) #[true, true, true, true, true, true, true, true, true, true, false, false, false, false, false, false, false, false, false, false, false, false, false] rfl rfl (any_of HT_.out (by kernel_rfl)) (fun _ _ _ h => h) (Or.inl ⟨by rfl, ?_⟩) ?_ ?_
        rotate_left
        ·intro w'
         go_simp
         with_reducible rfl
        rotate_left
        ·simp only [Act.put, List.setIfInBounds_toArray, List.set_cons_zero, List.set_cons_succ, i64_w, i32_w]
         rfl
        refine pure_ (i := 10) (N := some 28) (v := ?_) (a' := ?_) #[true, true, true, true, true, true, true, true, true, true, true, false, false, false, false, false, false, false, false, false, false, false, false] rfl rfl (any_of HT_.out (by kernel_rfl)) (fun _ _ _ h => h) (Or.inl ⟨by rfl, ?_⟩) ?_ ?_
        rotate_left
        ·intro w'
         go_simp
         with_reducible rfl
        rotate_left
        ·simp only [Act.put, List.setIfInBounds_toArray, List.set_cons_zero, List.set_cons_succ, i64_w, i32_w]
         rfl
        refine pure_ (i := 11) (N := some 29) (v := ?_) (a' := ?_) #[true, true, true, true, true, true, true, true, true, true, true, true, false, false, false, false, false, false, false, false, false, false, false] rfl rfl (any_of HT_.out (by kernel_rfl)) (fun _ _ _ h => h) (Or.inl ⟨by rfl, ?_⟩) ?_ ?_
        rotate_left
        ·intro w'
         go_simp
         with_reducible rfl
        rotate_left
        ·simp only [Act.put, List.setIfInBounds_toArray, List.set_cons_zero, List.set_cons_succ, i64_w, i32_w]
         rfl
        refine pure_ (i := 12) (N := some 30) (v := ?_) (a' := ?_) #[true, true, true, true, true, true, true, true, true, true, true, true, true, false, false, false, false, false, false, false, false, false, false] rfl rfl (any_of HT_.out (by kernel_rfl)) (fun _ _ _ h => h) (Or.inl ⟨by rfl, ?_⟩) ?_ ?_
        rotate_left
        ·intro w'
         go_simp
         with_reducible rfl
        rotate_left
        ·simp only [Act.put, List.setIfInBounds_toArray, List.set_cons_zero, List.set_cons_succ, i64_w, i32_w]
         rfl
        refine pure_ (i := 14) (N := some 32) (v := ?_) (a' := ?_) #[true, true, true, true, true, true, true, true, true, true, true, true, true, false, true, false, false, false, false, false, false, false, false] rfl rfl (any_of HT_.out (by kernel_rfl)) (fun _ _ _ h => h) (Or.inl ⟨by rfl, ?_⟩) ?_ ?_
        rotate_left
        ·intro w'
         go_simp
         with_reducible rfl
        rotate_left
        ·simp only [Act.put, List.setIfInBounds_toArray, List.set_cons_zero, List.set_cons_succ, i64_w, i32_w]
         rfl
        refine pure_ (i := 18) (N := some 36) (v := ?_) (a' := ?_) #[true, true, true, true, true, true, true, true, true, true, true, true, true, false, true, false, false, false, true, false, false, false, false] rfl rfl (any_of HT_.out (by kernel_rfl)) (fun _ _ _ h => h) (Or.inl ⟨by rfl, ?_⟩) ?_ ?_
        rotate_left
        ·intro w'
         go_simp
         with_reducible rfl
        rotate_left
        ·simp only [Act.put, List.setIfInBounds_toArray, List.set_cons_zero, List.set_cons_succ, i64_w, i32_w]
         rfl
        refine take_ (i := 15) (N := some 33) (v := ?_) (a' := ?_) #[true, true, true, true, true, true, true, true, true, true, true, true, true, false, true, true, false, false, true, false, false, false, false] rfl rfl (take_ofW HT_.out HW_.out (by kernel_rfl)) (fun _ _ _ h => h) (Or.inl ⟨by rfl, ?_⟩) hHeld ?_ ?_
        rotate_left
        ·rintro w' ⟨s0, s1, s2, s3, s4, s5, s6, s7⟩
         go_simp
         with_reducible rfl
        rotate_left
        ·simp only [Act.put, List.setIfInBounds_toArray, List.set_cons_zero, List.set_cons_succ, i64_w, i32_w]
         rfl
        refine one_ (i := 13) (N := some 31) #[true, true, true, true, true, true, true, true, true, true, true, true, true, true, true, true, false, false, true, false, false, false, false] rfl rfl (one_of HT_.out (by kernel_rfl)) (by decide) (fun K hK => ?_)
        refine goes_ Tryd.func10 (by kernel_rfl) rfl #[.string (⟨#[37, 89, 32, 37, 106]⟩ : ByteArray), .int .i64 a0, .int .i64 a1] (by rfl) rfl rfl (by (try simp only [List.map_toArray, List.map_cons, List.map_nil]); first | done | rfl | (simp only [List.length_drop, List.length_take]; rfl)) ?_
        with_reducible refine (stamp_Format.calls k1 (⟨#[37, 89, 32, 37, 106]⟩ : ByteArray) a0 a1 t134 _ A18.out (Env.below HEE.out (by repeat (first | (with_reducible first | exact HB.out | apply below_alloc | apply pw_below_drewN | apply below_drew1 | refine below_set ?_ GE129.out) | exact HB.out)))).mono ?_
        rintro e w26 ⟨rfl, hb⟩
        refine ⟨_, rfl, ?_⟩
        have n0_ := Aside0.mk (blk_below (g := gb129) (o := .cells #[.int .i64 t121, .int .i64 t122, .int .i64 t123, .int .i64 t124, .int .i64 t125, .int .i64 t126, .int .i64 t127, .int .i64 t128] 23 (0, 0)) (by (with_reducible repeat (first | refine blk_drewN ?_ _ | refine blk_drew ?_ | refine blk_alloc ?_ _)); exact BK129.out) hb)
        have n1_ := Aside0.mk (below_step (by repeat (first | (with_reducible first | exact HB.out | apply below_alloc | apply pw_below_drewN | apply below_drew1 | refine below_set ?_ GE129.out) | exact HB.out)) hb)
        clear BK129
        clear HB
        have BK129 := n0_
        have HB := n1_
        clear n0_ n1_
        (try clear hb)
        (try clear hb2)
        (try clear hk)
        (try clear hi)
        refine hK.out _ _ ⟨(blk_cell BK129.out 0).trans rfl, (blk_cell BK129.out 1).trans rfl, (blk_cell BK129.out 2).trans rfl, (blk_cell BK129.out 3).trans rfl, (blk_cell BK129.out 4).trans rfl, (blk_cell BK129.out 5).trans rfl, (blk_cell BK129.out 6).trans rfl, (blk_cell BK129.out 7).trans rfl⟩ (fun hHeld => ?_)
        clear hK K
        refine norm_ (a' := ?_) ?_ ?_
        rotate_left
        ·show Act.put _ (some 31) _ = _
         simp only [Act.put, List.setIfInBounds_toArray, List.set_cons_zero, List.set_cons_succ, i64_w, i32_w]
         rfl
        refine one_ (i := 16) (N := some 34) #[true, true, true, true, true, true, true, true, true, true, true, true, true, true, true, true, true, false, true, false, false, false, false] rfl rfl (one_of HT_.out (by kernel_rfl)) (by decide) (fun K hK => ?_)
        refine goes_ Tryd.func8 (by kernel_rfl) rfl #[.int .i64 t121] (by rfl) rfl rfl (by (try simp only [List.map_toArray, List.map_cons, List.map_nil]); first | done | rfl | (simp only [List.length_drop, List.length_take]; rfl)) ?_
        with_reducible refine (digits_Dec.calls t121 t135 _ A19.out (Env.below HEE.out (by repeat (first | (with_reducible first | exact HB.out | apply below_alloc | apply pw_below_drewN | apply below_drew1 | refine below_set ?_ GE129.out) | exact HB.out)))).mono ?_
        rintro e w27 ⟨rfl, hb⟩
        refine ⟨_, rfl, ?_⟩
        have n0_ := Aside0.mk (blk_below (g := gb129) (o := .cells #[.int .i64 t121, .int .i64 t122, .int .i64 t123, .int .i64 t124, .int .i64 t125, .int .i64 t126, .int .i64 t127, .int .i64 t128] 23 (0, 0)) (by (with_reducible repeat (first | refine blk_drewN ?_ _ | refine blk_drew ?_ | refine blk_alloc ?_ _)); exact BK129.out) hb)
        have n1_ := Aside0.mk (below_step (by repeat (first | (with_reducible first | exact HB.out | apply below_alloc | apply pw_below_drewN | apply below_drew1 | refine below_set ?_ GE129.out) | exact HB.out)) hb)
        clear BK129
        clear HB
        have BK129 := n0_
        have HB := n1_
        clear n0_ n1_
        (try clear hb)
        (try clear hb2)
        (try clear hk)
        (try clear hi)
        refine hK.out _ _ ⟨(blk_cell BK129.out 0).trans rfl, (blk_cell BK129.out 1).trans rfl, (blk_cell BK129.out 2).trans rfl, (blk_cell BK129.out 3).trans rfl, (blk_cell BK129.out 4).trans rfl, (blk_cell BK129.out 5).trans rfl, (blk_cell BK129.out 6).trans rfl, (blk_cell BK129.out 7).trans rfl⟩ (fun hHeld => ?_)
        clear hK K
        refine norm_ (a' := ?_) ?_ ?_
        rotate_left
        ·show Act.put _ (some 34) _ = _
         simp only [Act.put, List.setIfInBounds_toArray, List.set_cons_zero, List.set_cons_succ, i64_w, i32_w]
         rfl
        refine pure_ (i := 17) (N := some 35) (v := ?_) (a' := ?_) #[true, true, true, true, true, true, true, true, true, true, true, true, true, true, true, true, true, true, true, false, false, false, false] rfl rfl (any_of HT_.out (by kernel_rfl)) (fun _ _ _ h => h) (Or.inl ⟨by rfl, ?_⟩) ?_ ?_
        rotate_left
        ·intro w'
         go_simp
         with_reducible rfl
        rotate_left
        ·simp only [Act.put, List.setIfInBounds_toArray, List.set_cons_zero, List.set_cons_succ, i64_w, i32_w]
         rfl
        refine pure_ (i := 19) (N := some 37) (v := ?_) (a' := ?_) #[true, true, true, true, true, true, true, true, true, true, true, true, true, true, true, true, true, true, true, true, false, false, false] rfl rfl (any_of HT_.out (by kernel_rfl)) (fun _ _ _ h => h) (Or.inl ⟨by rfl, ?_⟩) ?_ ?_
        rotate_left
        ·intro w'
         go_simp
         with_reducible rfl
        rotate_left
        ·simp only [Act.put, List.setIfInBounds_toArray, List.set_cons_zero, List.set_cons_succ, i64_w, i32_w]
         rfl
        refine pure_ (i := 20) (N := some 38) (v := ?_) (a' := ?_) #[true, true, true, true, true, true, true, true, true, true, true, true, true, true, true, true, true, true, true, true, true, false, false] rfl rfl (any_of HT_.out (by kernel_rfl)) (fun _ _ _ h => h) (Or.inl ⟨by rfl, ?_⟩) ?_ ?_
        rotate_left
        ·intro w'
         go_simp
         with_reducible rfl
        rotate_left
        ·simp only [Act.put, List.setIfInBounds_toArray, List.set_cons_zero, List.set_cons_succ, i64_w, i32_w]
         rfl
        refine pure_ (i := 21) (N := some 39) (v := ?_) (a' := ?_) #[true, true, true, true, true, true, true, true, true, true, true, true, true, true, true, true, true, true, true, true, true, true, false] rfl rfl (any_of HT_.out (by kernel_rfl)) (fun _ _ _ h => h) (Or.inl ⟨by rfl, ?_⟩) ?_ ?_
        rotate_left
        ·intro w'
         go_simp
         with_reducible rfl
        rotate_left
        ·simp only [Act.put, List.setIfInBounds_toArray, List.set_cons_zero, List.set_cons_succ, i64_w, i32_w]
         rfl
        refine pure_ (i := 22) (N := some 4) (v := ?_) (a' := ?_) #[true, true, true, true, true, true, true, true, true, true, true, true, true, true, true, true, true, true, true, true, true, true, true] rfl rfl (any_of HT_.out (by kernel_rfl)) (fun _ _ _ h => h) (Or.inl ⟨by rfl, ?_⟩) ?_ ?_
        rotate_left
        ·intro w'
         go_simp
         with_reducible rfl
        rotate_left
        ·simp only [Act.put, List.setIfInBounds_toArray, List.set_cons_zero, List.set_cons_succ, i64_w, i32_w]
         rfl
        refine done_ (done_of HT_.out (by kernel_rfl)) ?_
        try go_wp2
        go_ret
        exact ⟨by first | rfl | (simp [errW_none, errW_some] <;> rfl) | (simp [*, errW_none, errW_some] <;> rfl), by repeat (first | (with_reducible first | exact HB.out | apply below_alloc | apply pw_below_drewN | apply below_drew1 | refine below_set ?_ GE129.out) | exact HB.out)⟩
       ·rw [if_neg c21] at H
        exact absurd H (by simp)
      ·rw [if_neg c20] at H
       exact absurd H (by simp)
     ·rw [if_neg c17] at H
      have c17b0 : (t132.toList == t133.toList) = false := beq_eq_false_iff_ne.mpr c17
      have c17b1 : (t132.toList != t133.toList) = true := bne_iff_ne.mpr c17
      exact absurd H (by simp)
    ·replace c14 := Bool.eq_false_iff.mpr c14
     subst c14
     have H1 : (none) = some r := by rw [if_neg (show ¬ (false = true) by decide)] at H; exact H
     clear H
     have H := H1
     clear H1
     exact absurd H (by simp)

end Go.Proofs.YtbbnjpnpgcjelaaDoor.QStm
