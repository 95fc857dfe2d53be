-- Made by a program of this session.
import Derived.Test.YtngcecmfgjgigaaQPermTextsx0
import Derived.Test.YtngcecmfgjgigaaQPermTextsx1
namespace Go.Proofs.Ytngcecmfgjgigaa.QPermTexts
open Go.RowKit Go.Proofs.YtngcecmfgjgigaaW.PrintWords Go.Proofs.YtngcecmfgjgigaaW.PrintLast Go.Proofs.YtngcecmfgjgigaaW.PrintMore
attribute [local go_sem] max2_int min2_int max_two min_two max_three min_three max_four min_four   -- for this text's walks alone
open Go.Proofs.Ytngcecmfgjgigaa.Ext
set_option linter.unusedVariables false
set_option linter.unusedSimpArgs false

/-! ### perm_Mark: function 16 -/
def perm_Mark.j0 : Nat → Bool → Option (ByteArray)
  | 0, _ => none
  | k + 1, x11 => if x11 = true then (some (⟨#[42]⟩ : ByteArray)) else (some (⟨#[]⟩ : ByteArray))
def perm_Mark.f (k : Nat) (a0_0 : Int) (a0_1 : Int) (a0_2 : Int) (a0_3 : Int) (a0_4 : Int) (a0_5 : Int) (a0_6 : Int) (a0_7 : Int) (a0_8 : Int) (a0_9 : Int) (a0_10 : Int) (a0_11 : Int) (a0_12 : ByteArray) : Option (ByteArray) := if a0_2 = 2 then (some (⟨#[47]⟩ : ByteArray)) else (if a0_2 = 3 then (some (⟨#[64]⟩ : ByteArray)) else (if a0_2 = 1 then (perm_Mark.j0 k ((Go.bits .and .i64 a0_3 73) != 0)) else (perm_Mark.j0 k false)))
theorem perm_Mark.mono_l : ∀ k, (∀ y0, LeO (perm_Mark.j0 k y0) (perm_Mark.j0 (k + 1) y0))
  | 0 => fun _ r h => by simp [perm_Mark.j0] at h
  | k + 1 => by
    have ih0 := perm_Mark.mono_l k
    · intro y0
      unfold perm_Mark.j0
      repeat' first
      | (with_reducible exact ih0 _)
      | (with_reducible exact LeO.refl _)
      | (with_reducible exact LeO.none _)
      | (with_reducible refine LeO.ite ?_ ?_)
      | (with_reducible refine LeO.bind ?_ (fun _ => ?_))
      | exact ih0 _
      | exact LeO.none _
      | refine LeO.ite ?_ ?_
      | refine LeO.bind ?_ (fun _ => ?_)
theorem perm_Mark.mono : ∀ a0 a1 a2 a3 a4 a5 a6 a7 a8 a9 a10 a11 a12 k, LeO (perm_Mark.f k a0 a1 a2 a3 a4 a5 a6 a7 a8 a9 a10 a11 a12) (perm_Mark.f (k + 1) a0 a1 a2 a3 a4 a5 a6 a7 a8 a9 a10 a11 a12) := by
  intro a0 a1 a2 a3 a4 a5 a6 a7 a8 a9 a10 a11 a12 k
  have ih0 := perm_Mark.mono_l k
  unfold perm_Mark.f
  repeat' first
      | (with_reducible exact ih0 _)
      | (with_reducible exact LeO.refl _)
      | (with_reducible exact LeO.none _)
      | (with_reducible refine LeO.ite ?_ ?_)
      | (with_reducible refine LeO.bind ?_ (fun _ => ?_))
      | exact ih0 _
      | exact LeO.none _
      | refine LeO.ite ?_ ?_
      | refine LeO.bind ?_ (fun _ => ?_)
set_option maxHeartbeats 8000000 in
set_option maxRecDepth 100000 in
theorem perm_Mark.calls (k : Nat) (a0_0 : Int) (a0_1 : Int) (a0_2 : Int) (a0_3 : Int) (a0_4 : Int) (a0_5 : Int) (a0_6 : Int) (a0_7 : Int) (a0_8 : Int) (a0_9 : Int) (a0_10 : Int) (a0_11 : Int) (a0_12 : ByteArray) (r : ByteArray) (w : World) (h : perm_Mark.f k a0_0 a0_1 a0_2 a0_3 a0_4 a0_5 a0_6 a0_7 a0_8 a0_9 a0_10 a0_11 a0_12 = some r) :
    Calls Try.prog 16 #[.agg #[.int .i64 a0_0, .int .i64 a0_1, .int .i64 a0_2, .int .i64 a0_3, .int .i64 a0_4, .int .i64 a0_5, .int .i64 a0_6, .int .i64 a0_7, .int .i64 a0_8, .int .i64 a0_9, .int .i64 a0_10, .int .i64 a0_11, .string a0_12]] w fun e w' => e = .returned (.string r) ∧ Below w.heap.size w w' := by
  have hu24 := Try.underlying24
  have HB := Aside0.mk (Below.refl w.heap.size w)
  have H : (if a0_2 = 2 then (some (⟨#[47]⟩ : ByteArray)) else (if a0_2 = 3 then (some (⟨#[64]⟩ : ByteArray)) else (if a0_2 = 1 then (perm_Mark.j0 k ((Go.bits .and .i64 a0_3 73) != 0)) else (perm_Mark.j0 k false)))) = some r := h
  clear h
  by_cases c2 : a0_2 = 2
  · rw [if_pos c2] at H
    have c2b0 : (a0_2 == 2) = true := beq_iff_eq.mpr c2
    have c2b1 : (a0_2 != 2) = false := bne_eq_false_iff_eq.mpr c2
    clear c2
    obtain rfl := Option.some.inj H
    go_enter Try.func16, Try.ntmps16
    go_wp2_with (first | ((with_reducible refine gate_dst (N := 1) rfl ?_); refine box_event ?hg (N := 1) ?hd (cs := #[.int .i64 a0_0, .int .i64 a0_1, .int .i64 a0_2, .int .i64 a0_3, .int .i64 a0_4, .int .i64 a0_5, .int .i64 a0_6, .int .i64 a0_7, .int .i64 a0_8, .int .i64 a0_9, .int .i64 a0_10, .int .i64 a0_11, .string a0_12]) (t := 24) ?hr ?_; (case hd => rfl); (case hg => rfl); (case hr => first | (go_simp; done) | (go_simp; rfl)); intro gb122 hg w3 hbox hb; have n0_ := Aside0.mk (below_step (by repeat (first | (with_reducible first | exact HB.out | apply below_alloc | apply pw_below_drewN | apply below_drew1) | exact HB.out)) hb); have n1_ := Aside0.mk (hbox); have n2_ := Aside0.mk ((by rw [hg]; exact (below_size (by repeat (first | (with_reducible first | exact HB.out | apply below_alloc | apply pw_below_drewN | apply below_drew1) | exact HB.out))) : w.heap.size ≤ gb122)); have n3_ := Aside0.mk ((by rw [hg]; exact (below_size (by repeat (first | (with_reducible first | exact HB.out | apply below_alloc | apply pw_below_drewN | apply below_drew1) | exact HB.out))) : w.heap.size ≤ gb122)); clear HB; have HB := n0_; have BK122 := n1_; have GW122 := n2_; have GE122 := n3_; clear n0_ n1_ n2_ n3_; clear hb hbox hg; have hcz4_0 : w3.cell? ⟨gb122, 0, none⟩ = some (.int .i64 a0_0) := (blk_cell BK122.out 0).trans rfl; have hcz4_1 : w3.cell? ⟨gb122, 1, none⟩ = some (.int .i64 a0_1) := (blk_cell BK122.out 1).trans rfl; have hcz4_2 : w3.cell? ⟨gb122, 2, none⟩ = some (.int .i64 a0_2) := (blk_cell BK122.out 2).trans rfl; have hcz4_3 : w3.cell? ⟨gb122, 3, none⟩ = some (.int .i64 a0_3) := (blk_cell BK122.out 3).trans rfl; have hcz4_4 : w3.cell? ⟨gb122, 4, none⟩ = some (.int .i64 a0_4) := (blk_cell BK122.out 4).trans rfl; have hcz4_5 : w3.cell? ⟨gb122, 5, none⟩ = some (.int .i64 a0_5) := (blk_cell BK122.out 5).trans rfl; have hcz4_6 : w3.cell? ⟨gb122, 6, none⟩ = some (.int .i64 a0_6) := (blk_cell BK122.out 6).trans rfl; have hcz4_7 : w3.cell? ⟨gb122, 7, none⟩ = some (.int .i64 a0_7) := (blk_cell BK122.out 7).trans rfl; have hcz4_8 : w3.cell? ⟨gb122, 8, none⟩ = some (.int .i64 a0_8) := (blk_cell BK122.out 8).trans rfl; have hcz4_9 : w3.cell? ⟨gb122, 9, none⟩ = some (.int .i64 a0_9) := (blk_cell BK122.out 9).trans rfl; have hcz4_10 : w3.cell? ⟨gb122, 10, none⟩ = some (.int .i64 a0_10) := (blk_cell BK122.out 10).trans rfl; have hcz4_11 : w3.cell? ⟨gb122, 11, none⟩ = some (.int .i64 a0_11) := (blk_cell BK122.out 11).trans rfl; have hcz4_12 : w3.cell? ⟨gb122, 12, none⟩ = some (.string a0_12) := (blk_cell BK122.out 12).trans rfl; have hfz4_0 := blk_frozen BK122.out 0; have hfz4_1 := blk_frozen BK122.out 1; have hfz4_2 := blk_frozen BK122.out 2; have hfz4_3 := blk_frozen BK122.out 3; have hfz4_4 := blk_frozen BK122.out 4; have hfz4_5 := blk_frozen BK122.out 5; have hfz4_6 := blk_frozen BK122.out 6; have hfz4_7 := blk_frozen BK122.out 7; have hfz4_8 := blk_frozen BK122.out 8; have hfz4_9 := blk_frozen BK122.out 9; have hfz4_10 := blk_frozen BK122.out 10; have hfz4_11 := blk_frozen BK122.out 11; have hfz4_12 := blk_frozen BK122.out 12))
    go_ret
    exact ⟨by first | rfl | (simp [errW_none, errW_some] <;> rfl) | (simp [*, errW_none, errW_some] <;> rfl), by repeat (first | (with_reducible first | exact HB.out | apply below_alloc | apply pw_below_drewN | apply below_drew1 | refine below_set ?_ GE122.out) | exact HB.out)⟩
  · rw [if_neg c2] at H
    have c2b0 : (a0_2 == 2) = false := beq_eq_false_iff_ne.mpr c2
    have c2b1 : (a0_2 != 2) = true := bne_iff_ne.mpr c2
    by_cases c5 : a0_2 = 3
    · rw [if_pos c5] at H
      have c5b0 : (a0_2 == 3) = true := beq_iff_eq.mpr c5
      have c5b1 : (a0_2 != 3) = false := bne_eq_false_iff_eq.mpr c5
      clear c5
      obtain rfl := Option.some.inj H
      go_enter Try.func16, Try.ntmps16
      go_wp2_with (first | ((with_reducible refine gate_dst (N := 1) rfl ?_); refine box_event ?hg (N := 1) ?hd (cs := #[.int .i64 a0_0, .int .i64 a0_1, .int .i64 a0_2, .int .i64 a0_3, .int .i64 a0_4, .int .i64 a0_5, .int .i64 a0_6, .int .i64 a0_7, .int .i64 a0_8, .int .i64 a0_9, .int .i64 a0_10, .int .i64 a0_11, .string a0_12]) (t := 24) ?hr ?_; (case hd => rfl); (case hg => rfl); (case hr => first | (go_simp; done) | (go_simp; rfl)); intro gb122 hg w6 hbox hb; have n0_ := Aside0.mk (below_step (by repeat (first | (with_reducible first | exact HB.out | apply below_alloc | apply pw_below_drewN | apply below_drew1) | exact HB.out)) hb); have n1_ := Aside0.mk (hbox); have n2_ := Aside0.mk ((by rw [hg]; exact (below_size (by repeat (first | (with_reducible first | exact HB.out | apply below_alloc | apply pw_below_drewN | apply below_drew1) | exact HB.out))) : w.heap.size ≤ gb122)); have n3_ := Aside0.mk ((by rw [hg]; exact (below_size (by repeat (first | (with_reducible first | exact HB.out | apply below_alloc | apply pw_below_drewN | apply below_drew1) | exact HB.out))) : w.heap.size ≤ gb122)); clear HB; have HB := n0_; have BK122 := n1_; have GW122 := n2_; have GE122 := n3_; clear n0_ n1_ n2_ n3_; clear hb hbox hg; have hcz7_0 : w6.cell? ⟨gb122, 0, none⟩ = some (.int .i64 a0_0) := (blk_cell BK122.out 0).trans rfl; have hcz7_1 : w6.cell? ⟨gb122, 1, none⟩ = some (.int .i64 a0_1) := (blk_cell BK122.out 1).trans rfl; have hcz7_2 : w6.cell? ⟨gb122, 2, none⟩ = some (.int .i64 a0_2) := (blk_cell BK122.out 2).trans rfl; have hcz7_3 : w6.cell? ⟨gb122, 3, none⟩ = some (.int .i64 a0_3) := (blk_cell BK122.out 3).trans rfl; have hcz7_4 : w6.cell? ⟨gb122, 4, none⟩ = some (.int .i64 a0_4) := (blk_cell BK122.out 4).trans rfl; have hcz7_5 : w6.cell? ⟨gb122, 5, none⟩ = some (.int .i64 a0_5) := (blk_cell BK122.out 5).trans rfl; have hcz7_6 : w6.cell? ⟨gb122, 6, none⟩ = some (.int .i64 a0_6) := (blk_cell BK122.out 6).trans rfl; have hcz7_7 : w6.cell? ⟨gb122, 7, none⟩ = some (.int .i64 a0_7) := (blk_cell BK122.out 7).trans rfl; have hcz7_8 : w6.cell? ⟨gb122, 8, none⟩ = some (.int .i64 a0_8) := (blk_cell BK122.out 8).trans rfl; have hcz7_9 : w6.cell? ⟨gb122, 9, none⟩ = some (.int .i64 a0_9) := (blk_cell BK122.out 9).trans rfl; have hcz7_10 : w6.cell? ⟨gb122, 10, none⟩ = some (.int .i64 a0_10) := (blk_cell BK122.out 10).trans rfl; have hcz7_11 : w6.cell? ⟨gb122, 11, none⟩ = some (.int .i64 a0_11) := (blk_cell BK122.out 11).trans rfl; have hcz7_12 : w6.cell? ⟨gb122, 12, none⟩ = some (.string a0_12) := (blk_cell BK122.out 12).trans rfl; have hfz7_0 := blk_frozen BK122.out 0; have hfz7_1 := blk_frozen BK122.out 1; have hfz7_2 := blk_frozen BK122.out 2; have hfz7_3 := blk_frozen BK122.out 3; have hfz7_4 := blk_frozen BK122.out 4; have hfz7_5 := blk_frozen BK122.out 5; have hfz7_6 := blk_frozen BK122.out 6; have hfz7_7 := blk_frozen BK122.out 7; have hfz7_8 := blk_frozen BK122.out 8; have hfz7_9 := blk_frozen BK122.out 9; have hfz7_10 := blk_frozen BK122.out 10; have hfz7_11 := blk_frozen BK122.out 11; have hfz7_12 := blk_frozen BK122.out 12))
      go_ret
      exact ⟨by first | rfl | (simp [errW_none, errW_some] <;> rfl) | (simp [*, errW_none, errW_some] <;> rfl), by repeat (first | (with_reducible first | exact HB.out | apply below_alloc | apply pw_below_drewN | apply below_drew1 | refine below_set ?_ GE122.out) | exact HB.out)⟩
    · rw [if_neg c5] at H
      have c5b0 : (a0_2 == 3) = false := beq_eq_false_iff_ne.mpr c5
      have c5b1 : (a0_2 != 3) = true := bne_iff_ne.mpr c5
      have HC8 := Aside0.mk H
      clear H
      go_enter Try.func16, Try.ntmps16
      go_upto_region 5 with (first | ((with_reducible refine gate_dst (N := 1) rfl ?_); refine box_event ?hg (N := 1) ?hd (cs := #[.int .i64 a0_0, .int .i64 a0_1, .int .i64 a0_2, .int .i64 a0_3, .int .i64 a0_4, .int .i64 a0_5, .int .i64 a0_6, .int .i64 a0_7, .int .i64 a0_8, .int .i64 a0_9, .int .i64 a0_10, .int .i64 a0_11, .string a0_12]) (t := 24) ?hr ?_; (case hd => rfl); (case hg => rfl); (case hr => first | (go_simp; done) | (go_simp; rfl)); intro gb122 hg w9 hbox hb; have n0_ := Aside0.mk (below_step (by repeat (first | (with_reducible first | exact HB.out | apply below_alloc | apply pw_below_drewN | apply below_drew1) | exact HB.out)) hb); have n1_ := Aside0.mk (hbox); have n2_ := Aside0.mk ((by rw [hg]; exact (below_size (by repeat (first | (with_reducible first | exact HB.out | apply below_alloc | apply pw_below_drewN | apply below_drew1) | exact HB.out))) : w.heap.size ≤ gb122)); have n3_ := Aside0.mk ((by rw [hg]; exact (below_size (by repeat (first | (with_reducible first | exact HB.out | apply below_alloc | apply pw_below_drewN | apply below_drew1) | exact HB.out))) : w.heap.size ≤ gb122)); clear HB; have HB := n0_; have BK122 := n1_; have GW122 := n2_; have GE122 := n3_; clear n0_ n1_ n2_ n3_; clear hb hbox hg; have hcz10_0 : w9.cell? ⟨gb122, 0, none⟩ = some (.int .i64 a0_0) := (blk_cell BK122.out 0).trans rfl; have hcz10_1 : w9.cell? ⟨gb122, 1, none⟩ = some (.int .i64 a0_1) := (blk_cell BK122.out 1).trans rfl; have hcz10_2 : w9.cell? ⟨gb122, 2, none⟩ = some (.int .i64 a0_2) := (blk_cell BK122.out 2).trans rfl; have hcz10_3 : w9.cell? ⟨gb122, 3, none⟩ = some (.int .i64 a0_3) := (blk_cell BK122.out 3).trans rfl; have hcz10_4 : w9.cell? ⟨gb122, 4, none⟩ = some (.int .i64 a0_4) := (blk_cell BK122.out 4).trans rfl; have hcz10_5 : w9.cell? ⟨gb122, 5, none⟩ = some (.int .i64 a0_5) := (blk_cell BK122.out 5).trans rfl; have hcz10_6 : w9.cell? ⟨gb122, 6, none⟩ = some (.int .i64 a0_6) := (blk_cell BK122.out 6).trans rfl; have hcz10_7 : w9.cell? ⟨gb122, 7, none⟩ = some (.int .i64 a0_7) := (blk_cell BK122.out 7).trans rfl; have hcz10_8 : w9.cell? ⟨gb122, 8, none⟩ = some (.int .i64 a0_8) := (blk_cell BK122.out 8).trans rfl; have hcz10_9 : w9.cell? ⟨gb122, 9, none⟩ = some (.int .i64 a0_9) := (blk_cell BK122.out 9).trans rfl; have hcz10_10 : w9.cell? ⟨gb122, 10, none⟩ = some (.int .i64 a0_10) := (blk_cell BK122.out 10).trans rfl; have hcz10_11 : w9.cell? ⟨gb122, 11, none⟩ = some (.int .i64 a0_11) := (blk_cell BK122.out 11).trans rfl; have hcz10_12 : w9.cell? ⟨gb122, 12, none⟩ = some (.string a0_12) := (blk_cell BK122.out 12).trans rfl; have hfz10_0 := blk_frozen BK122.out 0; have hfz10_1 := blk_frozen BK122.out 1; have hfz10_2 := blk_frozen BK122.out 2; have hfz10_3 := blk_frozen BK122.out 3; have hfz10_4 := blk_frozen BK122.out 4; have hfz10_5 := blk_frozen BK122.out 5; have hfz10_6 := blk_frozen BK122.out 6; have hfz10_7 := blk_frozen BK122.out 7; have hfz10_8 := blk_frozen BK122.out 8; have hfz10_9 := blk_frozen BK122.out 9; have hfz10_10 := blk_frozen BK122.out 10; have hfz10_11 := blk_frozen BK122.out 11; have hfz10_12 := blk_frozen BK122.out 12))
      (try simp only [Act.put, List.setIfInBounds_toArray, List.set_cons_zero, List.set_cons_succ])
      go_cut [11] (fun v11 wc => ∃ (kq : Nat) (x11_7 : Bool), v11 = .bool x11_7 ∧ Aside0 (perm_Mark.j0 kq x11_7 = some r) ∧ Aside0 (kq ≤ k) ∧ Aside0 (wc.heap[gb122]? = some (.cells #[.int .i64 a0_0, .int .i64 a0_1, .int .i64 a0_2, .int .i64 a0_3, .int .i64 a0_4, .int .i64 a0_5, .int .i64 a0_6, .int .i64 a0_7, .int .i64 a0_8, .int .i64 a0_9, .int .i64 a0_10, .int .i64 a0_11, .string a0_12] 24 (0, 0))) ∧ Aside0 (Below w.heap.size w wc))
      case first =>
        have H := HC8.out
        clear HC8
        by_cases c11 : a0_2 = 1
        · rw [if_pos c11] at H
          have c11b0 : (a0_2 == 1) = true := beq_iff_eq.mpr c11
          have c11b1 : (a0_2 != 1) = false := bne_eq_false_iff_eq.mpr c11
          clear c11
          (first | rw [c11b0] | (simp only [i64_w, i32_w]; rw [c11b0]) | skip)
          have H' := Aside0.mk H
          clear H
          have hcz12_0 : w9.cell? ⟨gb122, 0, none⟩ = some (.int .i64 a0_0) := (blk_cell BK122.out 0).trans rfl
          have hcz12_1 : w9.cell? ⟨gb122, 1, none⟩ = some (.int .i64 a0_1) := (blk_cell BK122.out 1).trans rfl
          have hcz12_2 : w9.cell? ⟨gb122, 2, none⟩ = some (.int .i64 a0_2) := (blk_cell BK122.out 2).trans rfl
          have hcz12_3 : w9.cell? ⟨gb122, 3, none⟩ = some (.int .i64 a0_3) := (blk_cell BK122.out 3).trans rfl
          have hcz12_4 : w9.cell? ⟨gb122, 4, none⟩ = some (.int .i64 a0_4) := (blk_cell BK122.out 4).trans rfl
          have hcz12_5 : w9.cell? ⟨gb122, 5, none⟩ = some (.int .i64 a0_5) := (blk_cell BK122.out 5).trans rfl
          have hcz12_6 : w9.cell? ⟨gb122, 6, none⟩ = some (.int .i64 a0_6) := (blk_cell BK122.out 6).trans rfl
          have hcz12_7 : w9.cell? ⟨gb122, 7, none⟩ = some (.int .i64 a0_7) := (blk_cell BK122.out 7).trans rfl
          have hcz12_8 : w9.cell? ⟨gb122, 8, none⟩ = some (.int .i64 a0_8) := (blk_cell BK122.out 8).trans rfl
          have hcz12_9 : w9.cell? ⟨gb122, 9, none⟩ = some (.int .i64 a0_9) := (blk_cell BK122.out 9).trans rfl
          have hcz12_10 : w9.cell? ⟨gb122, 10, none⟩ = some (.int .i64 a0_10) := (blk_cell BK122.out 10).trans rfl
          have hcz12_11 : w9.cell? ⟨gb122, 11, none⟩ = some (.int .i64 a0_11) := (blk_cell BK122.out 11).trans rfl
          have hcz12_12 : w9.cell? ⟨gb122, 12, none⟩ = some (.string a0_12) := (blk_cell BK122.out 12).trans rfl
          have hfz12_0 := blk_frozen BK122.out 0
          have hfz12_1 := blk_frozen BK122.out 1
          have hfz12_2 := blk_frozen BK122.out 2
          have hfz12_3 := blk_frozen BK122.out 3
          have hfz12_4 := blk_frozen BK122.out 4
          have hfz12_5 := blk_frozen BK122.out 5
          have hfz12_6 := blk_frozen BK122.out 6
          have hfz12_7 := blk_frozen BK122.out 7
          have hfz12_8 := blk_frozen BK122.out 8
          have hfz12_9 := blk_frozen BK122.out 9
          have hfz12_10 := blk_frozen BK122.out 10
          have hfz12_11 := blk_frozen BK122.out 11
          have hfz12_12 := blk_frozen BK122.out 12
          go_wp2
          go_meet
          case rel => exact ⟨_, (((Go.bits .and .i64 a0_3 73) != 0)), (by first | rfl | (simp; done) | (simp [*]; done)), H', ⟨by first | omega | exact Nat.le_refl _⟩, ⟨by (with_reducible repeat (first | refine blk_drewN ?_ _ | refine blk_drew ?_ | refine blk_alloc ?_ _)); exact BK122.out⟩, ⟨by repeat (first | (with_reducible first | exact HB.out | apply below_alloc | apply pw_below_drewN | apply below_drew1 | refine below_set ?_ GE122.out) | exact HB.out)⟩⟩
        · rw [if_neg c11] at H
          have c11b0 : (a0_2 == 1) = false := beq_eq_false_iff_ne.mpr c11
          have c11b1 : (a0_2 != 1) = true := bne_iff_ne.mpr c11
          (first | rw [c11b0] | (simp only [i64_w, i32_w]; rw [c11b0]) | skip)
          have H' := Aside0.mk H
          clear H
          have hcz13_0 : w9.cell? ⟨gb122, 0, none⟩ = some (.int .i64 a0_0) := (blk_cell BK122.out 0).trans rfl
          have hcz13_1 : w9.cell? ⟨gb122, 1, none⟩ = some (.int .i64 a0_1) := (blk_cell BK122.out 1).trans rfl
          have hcz13_2 : w9.cell? ⟨gb122, 2, none⟩ = some (.int .i64 a0_2) := (blk_cell BK122.out 2).trans rfl
          have hcz13_3 : w9.cell? ⟨gb122, 3, none⟩ = some (.int .i64 a0_3) := (blk_cell BK122.out 3).trans rfl
          have hcz13_4 : w9.cell? ⟨gb122, 4, none⟩ = some (.int .i64 a0_4) := (blk_cell BK122.out 4).trans rfl
          have hcz13_5 : w9.cell? ⟨gb122, 5, none⟩ = some (.int .i64 a0_5) := (blk_cell BK122.out 5).trans rfl
          have hcz13_6 : w9.cell? ⟨gb122, 6, none⟩ = some (.int .i64 a0_6) := (blk_cell BK122.out 6).trans rfl
          have hcz13_7 : w9.cell? ⟨gb122, 7, none⟩ = some (.int .i64 a0_7) := (blk_cell BK122.out 7).trans rfl
          have hcz13_8 : w9.cell? ⟨gb122, 8, none⟩ = some (.int .i64 a0_8) := (blk_cell BK122.out 8).trans rfl
          have hcz13_9 : w9.cell? ⟨gb122, 9, none⟩ = some (.int .i64 a0_9) := (blk_cell BK122.out 9).trans rfl
          have hcz13_10 : w9.cell? ⟨gb122, 10, none⟩ = some (.int .i64 a0_10) := (blk_cell BK122.out 10).trans rfl
          have hcz13_11 : w9.cell? ⟨gb122, 11, none⟩ = some (.int .i64 a0_11) := (blk_cell BK122.out 11).trans rfl
          have hcz13_12 : w9.cell? ⟨gb122, 12, none⟩ = some (.string a0_12) := (blk_cell BK122.out 12).trans rfl
          have hfz13_0 := blk_frozen BK122.out 0
          have hfz13_1 := blk_frozen BK122.out 1
          have hfz13_2 := blk_frozen BK122.out 2
          have hfz13_3 := blk_frozen BK122.out 3
          have hfz13_4 := blk_frozen BK122.out 4
          have hfz13_5 := blk_frozen BK122.out 5
          have hfz13_6 := blk_frozen BK122.out 6
          have hfz13_7 := blk_frozen BK122.out 7
          have hfz13_8 := blk_frozen BK122.out 8
          have hfz13_9 := blk_frozen BK122.out 9
          have hfz13_10 := blk_frozen BK122.out 10
          have hfz13_11 := blk_frozen BK122.out 11
          have hfz13_12 := blk_frozen BK122.out 12
          go_wp2
          go_meet
          case rel => exact ⟨_, (false), (by first | rfl | (simp; done) | (simp [*]; done)), H', ⟨by first | omega | exact Nat.le_refl _⟩, ⟨by (with_reducible repeat (first | refine blk_drewN ?_ _ | refine blk_drew ?_ | refine blk_alloc ?_ _)); exact BK122.out⟩, ⟨by repeat (first | (with_reducible first | exact HB.out | apply below_alloc | apply pw_below_drewN | apply below_drew1 | refine below_set ?_ GE122.out) | exact HB.out)⟩⟩
      case rest =>
        clear HC8
        try clear c1
        try clear c2
        try clear c2b0
        try clear c2b1
        try clear p2
        try clear c5
        try clear c5b0
        try clear c5b1
        try clear c11
        try clear c11b0
        try clear c11b1
        try clear hcz10_0
        try clear hcz10_1
        try clear hcz10_10
        try clear hcz10_11
        try clear hcz10_12
        try clear hcz10_2
        try clear hcz10_3
        try clear hcz10_4
        try clear hcz10_5
        try clear hcz10_6
        try clear hcz10_7
        try clear hcz10_8
        try clear hcz10_9
        try clear hcz12_0
        try clear hcz12_1
        try clear hcz12_10
        try clear hcz12_11
        try clear hcz12_12
        try clear hcz12_2
        try clear hcz12_3
        try clear hcz12_4
        try clear hcz12_5
        try clear hcz12_6
        try clear hcz12_7
        try clear hcz12_8
        try clear hcz12_9
        try clear hcz13_0
        try clear hcz13_1
        try clear hcz13_10
        try clear hcz13_11
        try clear hcz13_12
        try clear hcz13_2
        try clear hcz13_3
        try clear hcz13_4
        try clear hcz13_5
        try clear hcz13_6
        try clear hcz13_7
        try clear hcz13_8
        try clear hcz13_9
        try clear hcz4_0
        try clear hcz4_1
        try clear hcz4_10
        try clear hcz4_11
        try clear hcz4_12
        try clear hcz4_2
        try clear hcz4_3
        try clear hcz4_4
        try clear hcz4_5
        try clear hcz4_6
        try clear hcz4_7
        try clear hcz4_8
        try clear hcz4_9
        try clear hcz7_0
        try clear hcz7_1
        try clear hcz7_10
        try clear hcz7_11
        try clear hcz7_12
        try clear hcz7_2
        try clear hcz7_3
        try clear hcz7_4
        try clear hcz7_5
        try clear hcz7_6
        try clear hcz7_7
        try clear hcz7_8
        try clear hcz7_9
        try clear hfz10_0
        try clear hfz10_1
        try clear hfz10_10
        try clear hfz10_11
        try clear hfz10_12
        try clear hfz10_2
        try clear hfz10_3
        try clear hfz10_4
        try clear hfz10_5
        try clear hfz10_6
        try clear hfz10_7
        try clear hfz10_8
        try clear hfz10_9
        try clear hfz12_0
        try clear hfz12_1
        try clear hfz12_10
        try clear hfz12_11
        try clear hfz12_12
        try clear hfz12_2
        try clear hfz12_3
        try clear hfz12_4
        try clear hfz12_5
        try clear hfz12_6
        try clear hfz12_7
        try clear hfz12_8
        try clear hfz12_9
        try clear hfz13_0
        try clear hfz13_1
        try clear hfz13_10
        try clear hfz13_11
        try clear hfz13_12
        try clear hfz13_2
        try clear hfz13_3
        try clear hfz13_4
        try clear hfz13_5
        try clear hfz13_6
        try clear hfz13_7
        try clear hfz13_8
        try clear hfz13_9
        try clear hfz4_0
        try clear hfz4_1
        try clear hfz4_10
        try clear hfz4_11
        try clear hfz4_12
        try clear hfz4_2
        try clear hfz4_3
        try clear hfz4_4
        try clear hfz4_5
        try clear hfz4_6
        try clear hfz4_7
        try clear hfz4_8
        try clear hfz4_9
        try clear hfz7_0
        try clear hfz7_1
        try clear hfz7_10
        try clear hfz7_11
        try clear hfz7_12
        try clear hfz7_2
        try clear hfz7_3
        try clear hfz7_4
        try clear hfz7_5
        try clear hfz7_6
        try clear hfz7_7
        try clear hfz7_8
        try clear hfz7_9
        obtain ⟨kq, x11_7, rfl, HA, HJ7, BK122, HB⟩ := hcut
        cases kq with
        | zero => exact absurd HA.out (by simp [perm_Mark.j0])
        | succ kj7 =>
          have H := HA.out
          clear HA
          simp only [perm_Mark.j0] at H
          by_cases c14 : x11_7 = true
          · subst c14
            have H1 : (some (⟨#[42]⟩ : ByteArray)) = some r := by rw [if_pos rfl] at H; exact H
            clear H
            have H := H1
            clear H1
            obtain rfl := Option.some.inj H
            go_wp2
            go_ret
            exact ⟨by first | rfl | (simp [errW_none, errW_some] <;> rfl) | (simp [*, errW_none, errW_some] <;> rfl), by repeat (first | (with_reducible first | exact HB.out | apply below_alloc | apply pw_below_drewN | apply below_drew1 | refine below_set ?_ GE122.out) | exact HB.out)⟩
          · replace c14 := Bool.eq_false_iff.mpr c14
            subst c14
            have H1 : (some (⟨#[]⟩ : ByteArray)) = some r := by rw [if_neg (show ¬ (false = true) by decide)] at H; exact H
            clear H
            have H := H1
            clear H1
            obtain rfl := Option.some.inj H
            go_wp2
            go_ret
            exact ⟨by first | rfl | (simp [errW_none, errW_some] <;> rfl) | (simp [*, errW_none, errW_some] <;> rfl), by repeat (first | (with_reducible first | exact HB.out | apply below_alloc | apply pw_below_drewN | apply below_drew1 | refine below_set ?_ GE122.out) | exact HB.out)⟩

/-! ### domesdayref07_anyX: function 32 -/
def domesdayref07_anyX.f (k : Nat) (a0 : Int) : Option (Bool) := (domesdayref07_digit.f k a0 0).bind fun t123 => (if (Int.tmod t123 2) = 1 then (some true) else ((domesdayref07_digit.f k a0 1).bind fun t124 => (if (Int.tmod t124 2) = 1 then (some true) else ((domesdayref07_digit.f k a0 2).bind fun t125 => (some ((Int.tmod t125 2) == 1))))))
theorem domesdayref07_anyX.mono : ∀ a0 k, LeO (domesdayref07_anyX.f k a0) (domesdayref07_anyX.f (k + 1) a0) := by
  intro a0 k
  unfold domesdayref07_anyX.f
  repeat' first
      | (with_reducible exact domesdayref07_digit.mono _ _ _)
      | (with_reducible exact LeO.refl _)
      | (with_reducible exact LeO.none _)
      | (with_reducible refine LeO.ite ?_ ?_)
      | (with_reducible refine LeO.bind ?_ (fun _ => ?_))
      | exact domesdayref07_digit.mono _ _ _
      | exact LeO.none _
      | refine LeO.ite ?_ ?_
      | refine LeO.bind ?_ (fun _ => ?_)
set_option maxHeartbeats 8000000 in
set_option maxRecDepth 100000 in
theorem domesdayref07_anyX.calls (k : Nat) (a0 : Int) (r : Bool) (w : World) (h : domesdayref07_anyX.f k a0 = some r) :
    Calls Try.prog 32 #[.int .i64 a0] w fun e w' => e = .returned (.bool r) ∧ Drawn0 w w' := by
  have H : ((domesdayref07_digit.f k a0 0).bind fun t123 => (if (Int.tmod t123 2) = 1 then (some true) else ((domesdayref07_digit.f k a0 1).bind fun t124 => (if (Int.tmod t124 2) = 1 then (some true) else ((domesdayref07_digit.f k a0 2).bind fun t125 => (some ((Int.tmod t125 2) == 1))))))) = some r := h
  clear h
  replace H := Option.bind_eq_some_iff.mp H
  obtain ⟨t123, A20, H⟩ := H
  replace H : (if (Int.tmod t123 2) = 1 then (some true) else ((domesdayref07_digit.f k a0 1).bind fun t124 => (if (Int.tmod t124 2) = 1 then (some true) else ((domesdayref07_digit.f k a0 2).bind fun t125 => (some ((Int.tmod t125 2) == 1)))))) = some r := H
  have A2 := Aside0.mk A20
  clear A20
  by_cases c3 : (Int.tmod t123 2) = 1
  · rw [if_pos c3] at H
    have c3b0 : ((Int.tmod t123 2) == 1) = true := beq_iff_eq.mpr c3
    have c3b1 : ((Int.tmod t123 2) != 1) = false := bne_eq_false_iff_eq.mpr c3
    clear c3
    obtain rfl := Option.some.inj H
    go_enter Try.func32, Try.ntmps32
    go_wp2_with (first | ((with_reducible refine gate_callee (f := 31) rfl ?_); refine goesL_ (some 4) rfl rfl Try.func31 (by kernel_rfl) rfl #[.int .i64 a0, .int .i64 0] rfl (by (try simp only [List.map_toArray, List.map_cons, List.map_nil]); first | done | rfl | (simp only [List.length_drop, List.length_take]; rfl)) ?_; (with_reducible refine (domesdayref07_digit.calls k a0 0 t123 _ A2.out).mono ?_); rintro e w' ⟨rfl, ⟨nd, rfl⟩⟩; refine ⟨_, rfl, ?_⟩))
    go_ret
    exact ⟨by first | rfl | (simp; done) | (simp [*]; done), by repeat (first | exact Drawn0.refl _ | apply Drawn0.step)⟩
  · rw [if_neg c3] at H
    have c3b0 : ((Int.tmod t123 2) == 1) = false := beq_eq_false_iff_ne.mpr c3
    have c3b1 : ((Int.tmod t123 2) != 1) = true := bne_iff_ne.mpr c3
    replace H := Option.bind_eq_some_iff.mp H
    obtain ⟨t124, A40, H⟩ := H
    replace H : (if (Int.tmod t124 2) = 1 then (some true) else ((domesdayref07_digit.f k a0 2).bind fun t125 => (some ((Int.tmod t125 2) == 1)))) = some r := H
    have A4 := Aside0.mk A40
    clear A40
    by_cases c5 : (Int.tmod t124 2) = 1
    · rw [if_pos c5] at H
      have c5b0 : ((Int.tmod t124 2) == 1) = true := beq_iff_eq.mpr c5
      have c5b1 : ((Int.tmod t124 2) != 1) = false := bne_eq_false_iff_eq.mpr c5
      clear c5
      obtain rfl := Option.some.inj H
      go_enter Try.func32, Try.ntmps32
      go_wp2_with (first | ((with_reducible refine gate_callee (f := 31) rfl ?_); refine goesL_ (some 4) rfl rfl Try.func31 (by kernel_rfl) rfl #[.int .i64 a0, .int .i64 0] rfl (by (try simp only [List.map_toArray, List.map_cons, List.map_nil]); first | done | rfl | (simp only [List.length_drop, List.length_take]; rfl)) ?_; (with_reducible refine (domesdayref07_digit.calls k a0 0 t123 _ A2.out).mono ?_); rintro e w' ⟨rfl, ⟨nd, rfl⟩⟩; refine ⟨_, rfl, ?_⟩) | (go_at_call 31; (with_reducible refine (domesdayref07_digit.calls k a0 1 t124 _ A4.out).mono ?_); rintro e w' ⟨rfl, ⟨nd, rfl⟩⟩))
      go_ret
      exact ⟨by first | rfl | (simp; done) | (simp [*]; done), by repeat (first | exact Drawn0.refl _ | apply Drawn0.step)⟩
    · rw [if_neg c5] at H
      have c5b0 : ((Int.tmod t124 2) == 1) = false := beq_eq_false_iff_ne.mpr c5
      have c5b1 : ((Int.tmod t124 2) != 1) = true := bne_iff_ne.mpr c5
      replace H := Option.bind_eq_some_iff.mp H
      obtain ⟨t125, A60, H⟩ := H
      replace H : (some ((Int.tmod t125 2) == 1)) = some r := H
      have A6 := Aside0.mk A60
      clear A60
      obtain rfl := Option.some.inj H
      go_enter Try.func32, Try.ntmps32
      go_wp2_with (first | ((with_reducible refine gate_callee (f := 31) rfl ?_); refine goesL_ (some 4) rfl rfl Try.func31 (by kernel_rfl) rfl #[.int .i64 a0, .int .i64 0] rfl (by (try simp only [List.map_toArray, List.map_cons, List.map_nil]); first | done | rfl | (simp only [List.length_drop, List.length_take]; rfl)) ?_; (with_reducible refine (domesdayref07_digit.calls k a0 0 t123 _ A2.out).mono ?_); rintro e w' ⟨rfl, ⟨nd, rfl⟩⟩; refine ⟨_, rfl, ?_⟩) | (go_at_call 31; (with_reducible refine (domesdayref07_digit.calls k a0 1 t124 _ A4.out).mono ?_); rintro e w' ⟨rfl, ⟨nd, rfl⟩⟩) | (go_at_call 31; (with_reducible refine (domesdayref07_digit.calls k a0 2 t125 _ A6.out).mono ?_); rintro e w' ⟨rfl, ⟨nd, rfl⟩⟩))
      go_ret
      exact ⟨by first | rfl | (simp; done) | (simp [*]; done), by repeat (first | exact Drawn0.refl _ | apply Drawn0.step)⟩

/-! ### domesdayref07_Mark: function 17 -/
def domesdayref07_Mark.j0 : Nat → Bool → Option (ByteArray)
  | 0, _ => none
  | k + 1, x16 => if x16 = true then (some (⟨#[42]⟩ : ByteArray)) else (some (⟨#[]⟩ : ByteArray))
def domesdayref07_Mark.f (k : Nat) (a0_0 : Int) (a0_1 : Int) (a0_2 : Int) (a0_3 : Int) (a0_4 : Int) (a0_5 : Int) (a0_6 : Int) (a0_7 : Int) (a0_8 : Int) (a0_9 : Int) (a0_10 : Int) (a0_11 : Int) (a0_12 : ByteArray) : Option (ByteArray) := if a0_2 = 2 then (some (⟨#[47]⟩ : ByteArray)) else (if a0_2 = 3 then (some (⟨#[64]⟩ : ByteArray)) else (if a0_2 = 1 then ((domesdayref07_anyX.f k a0_3).bind fun t127 => (domesdayref07_Mark.j0 k t127)) else (domesdayref07_Mark.j0 k false)))
theorem domesdayref07_Mark.mono_l : ∀ k, (∀ y0, LeO (domesdayref07_Mark.j0 k y0) (domesdayref07_Mark.j0 (k + 1) y0))
  | 0 => fun _ r h => by simp [domesdayref07_Mark.j0] at h
  | k + 1 => by
    have ih0 := domesdayref07_Mark.mono_l k
    · intro y0
      unfold domesdayref07_Mark.j0
      repeat' first
      | (with_reducible exact ih0 _)
      | (with_reducible exact domesdayref07_anyX.mono _ _)
      | (with_reducible exact LeO.refl _)
      | (with_reducible exact LeO.none _)
      | (with_reducible refine LeO.ite ?_ ?_)
      | (with_reducible refine LeO.bind ?_ (fun _ => ?_))
      | exact ih0 _
      | exact domesdayref07_anyX.mono _ _
      | exact LeO.none _
      | refine LeO.ite ?_ ?_
      | refine LeO.bind ?_ (fun _ => ?_)
theorem domesdayref07_Mark.mono : ∀ a0 a1 a2 a3 a4 a5 a6 a7 a8 a9 a10 a11 a12 k, LeO (domesdayref07_Mark.f k a0 a1 a2 a3 a4 a5 a6 a7 a8 a9 a10 a11 a12) (domesdayref07_Mark.f (k + 1) a0 a1 a2 a3 a4 a5 a6 a7 a8 a9 a10 a11 a12) := by
  intro a0 a1 a2 a3 a4 a5 a6 a7 a8 a9 a10 a11 a12 k
  have ih0 := domesdayref07_Mark.mono_l k
  unfold domesdayref07_Mark.f
  repeat' first
      | (with_reducible exact ih0 _)
      | (with_reducible exact domesdayref07_anyX.mono _ _)
      | (with_reducible exact LeO.refl _)
      | (with_reducible exact LeO.none _)
      | (with_reducible refine LeO.ite ?_ ?_)
      | (with_reducible refine LeO.bind ?_ (fun _ => ?_))
      | exact ih0 _
      | exact domesdayref07_anyX.mono _ _
      | exact LeO.none _
      | refine LeO.ite ?_ ?_
      | refine LeO.bind ?_ (fun _ => ?_)
set_option maxHeartbeats 8000000 in
set_option maxRecDepth 100000 in
theorem domesdayref07_Mark.calls (k : Nat) (a0_0 : Int) (a0_1 : Int) (a0_2 : Int) (a0_3 : Int) (a0_4 : Int) (a0_5 : Int) (a0_6 : Int) (a0_7 : Int) (a0_8 : Int) (a0_9 : Int) (a0_10 : Int) (a0_11 : Int) (a0_12 : ByteArray) (r : ByteArray) (w : World) (h : domesdayref07_Mark.f k a0_0 a0_1 a0_2 a0_3 a0_4 a0_5 a0_6 a0_7 a0_8 a0_9 a0_10 a0_11 a0_12 = some r) :
    Calls Try.prog 17 #[.agg #[.int .i64 a0_0, .int .i64 a0_1, .int .i64 a0_2, .int .i64 a0_3, .int .i64 a0_4, .int .i64 a0_5, .int .i64 a0_6, .int .i64 a0_7, .int .i64 a0_8, .int .i64 a0_9, .int .i64 a0_10, .int .i64 a0_11, .string a0_12]] w fun e w' => e = .returned (.string r) ∧ Below w.heap.size w w' := by
  have hu24 := Try.underlying24
  have HB := Aside0.mk (Below.refl w.heap.size w)
  have H : (if a0_2 = 2 then (some (⟨#[47]⟩ : ByteArray)) else (if a0_2 = 3 then (some (⟨#[64]⟩ : ByteArray)) else (if a0_2 = 1 then ((domesdayref07_anyX.f k a0_3).bind fun t127 => (domesdayref07_Mark.j0 k t127)) else (domesdayref07_Mark.j0 k false)))) = some r := h
  clear h
  by_cases c2 : a0_2 = 2
  · rw [if_pos c2] at H
    have c2b0 : (a0_2 == 2) = true := beq_iff_eq.mpr c2
    have c2b1 : (a0_2 != 2) = false := bne_eq_false_iff_eq.mpr c2
    clear c2
    obtain rfl := Option.some.inj H
    go_enter Try.func17, Try.ntmps17
    go_wp2_with (first | ((with_reducible refine gate_dst (N := 1) rfl ?_); refine box_event ?hg (N := 1) ?hd (cs := #[.int .i64 a0_0, .int .i64 a0_1, .int .i64 a0_2, .int .i64 a0_3, .int .i64 a0_4, .int .i64 a0_5, .int .i64 a0_6, .int .i64 a0_7, .int .i64 a0_8, .int .i64 a0_9, .int .i64 a0_10, .int .i64 a0_11, .string a0_12]) (t := 24) ?hr ?_; (case hd => rfl); (case hg => rfl); (case hr => first | (go_simp; done) | (go_simp; rfl)); intro gb126 hg w3 hbox hb; have n0_ := Aside0.mk (below_step (by repeat (first | (with_reducible first | exact HB.out | apply below_alloc | apply pw_below_drewN | apply below_drew1) | exact HB.out)) hb); have n1_ := Aside0.mk (hbox); have n2_ := Aside0.mk ((by rw [hg]; exact (below_size (by repeat (first | (with_reducible first | exact HB.out | apply below_alloc | apply pw_below_drewN | apply below_drew1) | exact HB.out))) : w.heap.size ≤ gb126)); have n3_ := Aside0.mk ((by rw [hg]; exact (below_size (by repeat (first | (with_reducible first | exact HB.out | apply below_alloc | apply pw_below_drewN | apply below_drew1) | exact HB.out))) : w.heap.size ≤ gb126)); clear HB; have HB := n0_; have BK126 := n1_; have GW126 := n2_; have GE126 := n3_; clear n0_ n1_ n2_ n3_; clear hb hbox hg; have hcz4_0 : w3.cell? ⟨gb126, 0, none⟩ = some (.int .i64 a0_0) := (blk_cell BK126.out 0).trans rfl; have hcz4_1 : w3.cell? ⟨gb126, 1, none⟩ = some (.int .i64 a0_1) := (blk_cell BK126.out 1).trans rfl; have hcz4_2 : w3.cell? ⟨gb126, 2, none⟩ = some (.int .i64 a0_2) := (blk_cell BK126.out 2).trans rfl; have hcz4_3 : w3.cell? ⟨gb126, 3, none⟩ = some (.int .i64 a0_3) := (blk_cell BK126.out 3).trans rfl; have hcz4_4 : w3.cell? ⟨gb126, 4, none⟩ = some (.int .i64 a0_4) := (blk_cell BK126.out 4).trans rfl; have hcz4_5 : w3.cell? ⟨gb126, 5, none⟩ = some (.int .i64 a0_5) := (blk_cell BK126.out 5).trans rfl; have hcz4_6 : w3.cell? ⟨gb126, 6, none⟩ = some (.int .i64 a0_6) := (blk_cell BK126.out 6).trans rfl; have hcz4_7 : w3.cell? ⟨gb126, 7, none⟩ = some (.int .i64 a0_7) := (blk_cell BK126.out 7).trans rfl; have hcz4_8 : w3.cell? ⟨gb126, 8, none⟩ = some (.int .i64 a0_8) := (blk_cell BK126.out 8).trans rfl; have hcz4_9 : w3.cell? ⟨gb126, 9, none⟩ = some (.int .i64 a0_9) := (blk_cell BK126.out 9).trans rfl; have hcz4_10 : w3.cell? ⟨gb126, 10, none⟩ = some (.int .i64 a0_10) := (blk_cell BK126.out 10).trans rfl; have hcz4_11 : w3.cell? ⟨gb126, 11, none⟩ = some (.int .i64 a0_11) := (blk_cell BK126.out 11).trans rfl; have hcz4_12 : w3.cell? ⟨gb126, 12, none⟩ = some (.string a0_12) := (blk_cell BK126.out 12).trans rfl; have hfz4_0 := blk_frozen BK126.out 0; have hfz4_1 := blk_frozen BK126.out 1; have hfz4_2 := blk_frozen BK126.out 2; have hfz4_3 := blk_frozen BK126.out 3; have hfz4_4 := blk_frozen BK126.out 4; have hfz4_5 := blk_frozen BK126.out 5; have hfz4_6 := blk_frozen BK126.out 6; have hfz4_7 := blk_frozen BK126.out 7; have hfz4_8 := blk_frozen BK126.out 8; have hfz4_9 := blk_frozen BK126.out 9; have hfz4_10 := blk_frozen BK126.out 10; have hfz4_11 := blk_frozen BK126.out 11; have hfz4_12 := blk_frozen BK126.out 12))
    go_ret
    exact ⟨by first | rfl | (simp [errW_none, errW_some] <;> rfl) | (simp [*, errW_none, errW_some] <;> rfl), by repeat (first | (with_reducible first | exact HB.out | apply below_alloc | apply pw_below_drewN | apply below_drew1 | refine below_set ?_ GE126.out) | exact HB.out)⟩
  · rw [if_neg c2] at H
    have c2b0 : (a0_2 == 2) = false := beq_eq_false_iff_ne.mpr c2
    have c2b1 : (a0_2 != 2) = true := bne_iff_ne.mpr c2
    by_cases c5 : a0_2 = 3
    · rw [if_pos c5] at H
      have c5b0 : (a0_2 == 3) = true := beq_iff_eq.mpr c5
      have c5b1 : (a0_2 != 3) = false := bne_eq_false_iff_eq.mpr c5
      clear c5
      obtain rfl := Option.some.inj H
      go_enter Try.func17, Try.ntmps17
      go_wp2_with (first | ((with_reducible refine gate_dst (N := 1) rfl ?_); refine box_event ?hg (N := 1) ?hd (cs := #[.int .i64 a0_0, .int .i64 a0_1, .int .i64 a0_2, .int .i64 a0_3, .int .i64 a0_4, .int .i64 a0_5, .int .i64 a0_6, .int .i64 a0_7, .int .i64 a0_8, .int .i64 a0_9, .int .i64 a0_10, .int .i64 a0_11, .string a0_12]) (t := 24) ?hr ?_; (case hd => rfl); (case hg => rfl); (case hr => first | (go_simp; done) | (go_simp; rfl)); intro gb126 hg w6 hbox hb; have n0_ := Aside0.mk (below_step (by repeat (first | (with_reducible first | exact HB.out | apply below_alloc | apply pw_below_drewN | apply below_drew1) | exact HB.out)) hb); have n1_ := Aside0.mk (hbox); have n2_ := Aside0.mk ((by rw [hg]; exact (below_size (by repeat (first | (with_reducible first | exact HB.out | apply below_alloc | apply pw_below_drewN | apply below_drew1) | exact HB.out))) : w.heap.size ≤ gb126)); have n3_ := Aside0.mk ((by rw [hg]; exact (below_size (by repeat (first | (with_reducible first | exact HB.out | apply below_alloc | apply pw_below_drewN | apply below_drew1) | exact HB.out))) : w.heap.size ≤ gb126)); clear HB; have HB := n0_; have BK126 := n1_; have GW126 := n2_; have GE126 := n3_; clear n0_ n1_ n2_ n3_; clear hb hbox hg; have hcz7_0 : w6.cell? ⟨gb126, 0, none⟩ = some (.int .i64 a0_0) := (blk_cell BK126.out 0).trans rfl; have hcz7_1 : w6.cell? ⟨gb126, 1, none⟩ = some (.int .i64 a0_1) := (blk_cell BK126.out 1).trans rfl; have hcz7_2 : w6.cell? ⟨gb126, 2, none⟩ = some (.int .i64 a0_2) := (blk_cell BK126.out 2).trans rfl; have hcz7_3 : w6.cell? ⟨gb126, 3, none⟩ = some (.int .i64 a0_3) := (blk_cell BK126.out 3).trans rfl; have hcz7_4 : w6.cell? ⟨gb126, 4, none⟩ = some (.int .i64 a0_4) := (blk_cell BK126.out 4).trans rfl; have hcz7_5 : w6.cell? ⟨gb126, 5, none⟩ = some (.int .i64 a0_5) := (blk_cell BK126.out 5).trans rfl; have hcz7_6 : w6.cell? ⟨gb126, 6, none⟩ = some (.int .i64 a0_6) := (blk_cell BK126.out 6).trans rfl; have hcz7_7 : w6.cell? ⟨gb126, 7, none⟩ = some (.int .i64 a0_7) := (blk_cell BK126.out 7).trans rfl; have hcz7_8 : w6.cell? ⟨gb126, 8, none⟩ = some (.int .i64 a0_8) := (blk_cell BK126.out 8).trans rfl; have hcz7_9 : w6.cell? ⟨gb126, 9, none⟩ = some (.int .i64 a0_9) := (blk_cell BK126.out 9).trans rfl; have hcz7_10 : w6.cell? ⟨gb126, 10, none⟩ = some (.int .i64 a0_10) := (blk_cell BK126.out 10).trans rfl; have hcz7_11 : w6.cell? ⟨gb126, 11, none⟩ = some (.int .i64 a0_11) := (blk_cell BK126.out 11).trans rfl; have hcz7_12 : w6.cell? ⟨gb126, 12, none⟩ = some (.string a0_12) := (blk_cell BK126.out 12).trans rfl; have hfz7_0 := blk_frozen BK126.out 0; have hfz7_1 := blk_frozen BK126.out 1; have hfz7_2 := blk_frozen BK126.out 2; have hfz7_3 := blk_frozen BK126.out 3; have hfz7_4 := blk_frozen BK126.out 4; have hfz7_5 := blk_frozen BK126.out 5; have hfz7_6 := blk_frozen BK126.out 6; have hfz7_7 := blk_frozen BK126.out 7; have hfz7_8 := blk_frozen BK126.out 8; have hfz7_9 := blk_frozen BK126.out 9; have hfz7_10 := blk_frozen BK126.out 10; have hfz7_11 := blk_frozen BK126.out 11; have hfz7_12 := blk_frozen BK126.out 12))
      go_ret
      exact ⟨by first | rfl | (simp [errW_none, errW_some] <;> rfl) | (simp [*, errW_none, errW_some] <;> rfl), by repeat (first | (with_reducible first | exact HB.out | apply below_alloc | apply pw_below_drewN | apply below_drew1 | refine below_set ?_ GE126.out) | exact HB.out)⟩
    · rw [if_neg c5] at H
      have c5b0 : (a0_2 == 3) = false := beq_eq_false_iff_ne.mpr c5
      have c5b1 : (a0_2 != 3) = true := bne_iff_ne.mpr c5
      have HC8 := Aside0.mk H
      clear H
      go_enter Try.func17, Try.ntmps17
      go_upto_region 5 with (first | ((with_reducible refine gate_dst (N := 1) rfl ?_); refine box_event ?hg (N := 1) ?hd (cs := #[.int .i64 a0_0, .int .i64 a0_1, .int .i64 a0_2, .int .i64 a0_3, .int .i64 a0_4, .int .i64 a0_5, .int .i64 a0_6, .int .i64 a0_7, .int .i64 a0_8, .int .i64 a0_9, .int .i64 a0_10, .int .i64 a0_11, .string a0_12]) (t := 24) ?hr ?_; (case hd => rfl); (case hg => rfl); (case hr => first | (go_simp; done) | (go_simp; rfl)); intro gb126 hg w9 hbox hb; have n0_ := Aside0.mk (below_step (by repeat (first | (with_reducible first | exact HB.out | apply below_alloc | apply pw_below_drewN | apply below_drew1) | exact HB.out)) hb); have n1_ := Aside0.mk (hbox); have n2_ := Aside0.mk ((by rw [hg]; exact (below_size (by repeat (first | (with_reducible first | exact HB.out | apply below_alloc | apply pw_below_drewN | apply below_drew1) | exact HB.out))) : w.heap.size ≤ gb126)); have n3_ := Aside0.mk ((by rw [hg]; exact (below_size (by repeat (first | (with_reducible first | exact HB.out | apply below_alloc | apply pw_below_drewN | apply below_drew1) | exact HB.out))) : w.heap.size ≤ gb126)); clear HB; have HB := n0_; have BK126 := n1_; have GW126 := n2_; have GE126 := n3_; clear n0_ n1_ n2_ n3_; clear hb hbox hg; have hcz10_0 : w9.cell? ⟨gb126, 0, none⟩ = some (.int .i64 a0_0) := (blk_cell BK126.out 0).trans rfl; have hcz10_1 : w9.cell? ⟨gb126, 1, none⟩ = some (.int .i64 a0_1) := (blk_cell BK126.out 1).trans rfl; have hcz10_2 : w9.cell? ⟨gb126, 2, none⟩ = some (.int .i64 a0_2) := (blk_cell BK126.out 2).trans rfl; have hcz10_3 : w9.cell? ⟨gb126, 3, none⟩ = some (.int .i64 a0_3) := (blk_cell BK126.out 3).trans rfl; have hcz10_4 : w9.cell? ⟨gb126, 4, none⟩ = some (.int .i64 a0_4) := (blk_cell BK126.out 4).trans rfl; have hcz10_5 : w9.cell? ⟨gb126, 5, none⟩ = some (.int .i64 a0_5) := (blk_cell BK126.out 5).trans rfl; have hcz10_6 : w9.cell? ⟨gb126, 6, none⟩ = some (.int .i64 a0_6) := (blk_cell BK126.out 6).trans rfl; have hcz10_7 : w9.cell? ⟨gb126, 7, none⟩ = some (.int .i64 a0_7) := (blk_cell BK126.out 7).trans rfl; have hcz10_8 : w9.cell? ⟨gb126, 8, none⟩ = some (.int .i64 a0_8) := (blk_cell BK126.out 8).trans rfl; have hcz10_9 : w9.cell? ⟨gb126, 9, none⟩ = some (.int .i64 a0_9) := (blk_cell BK126.out 9).trans rfl; have hcz10_10 : w9.cell? ⟨gb126, 10, none⟩ = some (.int .i64 a0_10) := (blk_cell BK126.out 10).trans rfl; have hcz10_11 : w9.cell? ⟨gb126, 11, none⟩ = some (.int .i64 a0_11) := (blk_cell BK126.out 11).trans rfl; have hcz10_12 : w9.cell? ⟨gb126, 12, none⟩ = some (.string a0_12) := (blk_cell BK126.out 12).trans rfl; have hfz10_0 := blk_frozen BK126.out 0; have hfz10_1 := blk_frozen BK126.out 1; have hfz10_2 := blk_frozen BK126.out 2; have hfz10_3 := blk_frozen BK126.out 3; have hfz10_4 := blk_frozen BK126.out 4; have hfz10_5 := blk_frozen BK126.out 5; have hfz10_6 := blk_frozen BK126.out 6; have hfz10_7 := blk_frozen BK126.out 7; have hfz10_8 := blk_frozen BK126.out 8; have hfz10_9 := blk_frozen BK126.out 9; have hfz10_10 := blk_frozen BK126.out 10; have hfz10_11 := blk_frozen BK126.out 11; have hfz10_12 := blk_frozen BK126.out 12))
      (try simp only [Act.put, List.setIfInBounds_toArray, List.set_cons_zero, List.set_cons_succ])
      go_cut [16] (fun v16 wc => ∃ (kq : Nat) (x16_7 : Bool), v16 = .bool x16_7 ∧ Aside0 (domesdayref07_Mark.j0 kq x16_7 = some r) ∧ Aside0 (kq ≤ k) ∧ Aside0 (wc.heap[gb126]? = some (.cells #[.int .i64 a0_0, .int .i64 a0_1, .int .i64 a0_2, .int .i64 a0_3, .int .i64 a0_4, .int .i64 a0_5, .int .i64 a0_6, .int .i64 a0_7, .int .i64 a0_8, .int .i64 a0_9, .int .i64 a0_10, .int .i64 a0_11, .string a0_12] 24 (0, 0))) ∧ Aside0 (Below w.heap.size w wc))
      case first =>
        have H := HC8.out
        clear HC8
        by_cases c11 : a0_2 = 1
        · rw [if_pos c11] at H
          have c11b0 : (a0_2 == 1) = true := beq_iff_eq.mpr c11
          have c11b1 : (a0_2 != 1) = false := bne_eq_false_iff_eq.mpr c11
          clear c11
          (first | rw [c11b0] | (simp only [i64_w, i32_w]; rw [c11b0]) | skip)
          replace H := Option.bind_eq_some_iff.mp H
          obtain ⟨t127, A120, H⟩ := H
          replace H : (domesdayref07_Mark.j0 k t127) = some r := H
          have A12 := Aside0.mk A120
          clear A120
          have H' := Aside0.mk H
          clear H
          have hcz13_0 : w9.cell? ⟨gb126, 0, none⟩ = some (.int .i64 a0_0) := (blk_cell BK126.out 0).trans rfl
          have hcz13_1 : w9.cell? ⟨gb126, 1, none⟩ = some (.int .i64 a0_1) := (blk_cell BK126.out 1).trans rfl
          have hcz13_2 : w9.cell? ⟨gb126, 2, none⟩ = some (.int .i64 a0_2) := (blk_cell BK126.out 2).trans rfl
          have hcz13_3 : w9.cell? ⟨gb126, 3, none⟩ = some (.int .i64 a0_3) := (blk_cell BK126.out 3).trans rfl
          have hcz13_4 : w9.cell? ⟨gb126, 4, none⟩ = some (.int .i64 a0_4) := (blk_cell BK126.out 4).trans rfl
          have hcz13_5 : w9.cell? ⟨gb126, 5, none⟩ = some (.int .i64 a0_5) := (blk_cell BK126.out 5).trans rfl
          have hcz13_6 : w9.cell? ⟨gb126, 6, none⟩ = some (.int .i64 a0_6) := (blk_cell BK126.out 6).trans rfl
          have hcz13_7 : w9.cell? ⟨gb126, 7, none⟩ = some (.int .i64 a0_7) := (blk_cell BK126.out 7).trans rfl
          have hcz13_8 : w9.cell? ⟨gb126, 8, none⟩ = some (.int .i64 a0_8) := (blk_cell BK126.out 8).trans rfl
          have hcz13_9 : w9.cell? ⟨gb126, 9, none⟩ = some (.int .i64 a0_9) := (blk_cell BK126.out 9).trans rfl
          have hcz13_10 : w9.cell? ⟨gb126, 10, none⟩ = some (.int .i64 a0_10) := (blk_cell BK126.out 10).trans rfl
          have hcz13_11 : w9.cell? ⟨gb126, 11, none⟩ = some (.int .i64 a0_11) := (blk_cell BK126.out 11).trans rfl
          have hcz13_12 : w9.cell? ⟨gb126, 12, none⟩ = some (.string a0_12) := (blk_cell BK126.out 12).trans rfl
          have hfz13_0 := blk_frozen BK126.out 0
          have hfz13_1 := blk_frozen BK126.out 1
          have hfz13_2 := blk_frozen BK126.out 2
          have hfz13_3 := blk_frozen BK126.out 3
          have hfz13_4 := blk_frozen BK126.out 4
          have hfz13_5 := blk_frozen BK126.out 5
          have hfz13_6 := blk_frozen BK126.out 6
          have hfz13_7 := blk_frozen BK126.out 7
          have hfz13_8 := blk_frozen BK126.out 8
          have hfz13_9 := blk_frozen BK126.out 9
          have hfz13_10 := blk_frozen BK126.out 10
          have hfz13_11 := blk_frozen BK126.out 11
          have hfz13_12 := blk_frozen BK126.out 12
          go_wp2_with (first | (go_at_call 32; (with_reducible refine (domesdayref07_anyX.calls k a0_3 t127 _ A12.out).mono ?_); rintro e w' ⟨rfl, ⟨nd, rfl⟩⟩))
          go_meet
          case rel => exact ⟨_, (t127), (by first | rfl | (simp; done) | (simp [*]; done)), H', ⟨by first | omega | exact Nat.le_refl _⟩, ⟨by (with_reducible repeat (first | refine blk_drewN ?_ _ | refine blk_drew ?_ | refine blk_alloc ?_ _)); exact BK126.out⟩, ⟨by repeat (first | (with_reducible first | exact HB.out | apply below_alloc | apply pw_below_drewN | apply below_drew1 | refine below_set ?_ GE126.out) | exact HB.out)⟩⟩
        · rw [if_neg c11] at H
          have c11b0 : (a0_2 == 1) = false := beq_eq_false_iff_ne.mpr c11
          have c11b1 : (a0_2 != 1) = true := bne_iff_ne.mpr c11
          (first | rw [c11b0] | (simp only [i64_w, i32_w]; rw [c11b0]) | skip)
          have H' := Aside0.mk H
          clear H
          have hcz14_0 : w9.cell? ⟨gb126, 0, none⟩ = some (.int .i64 a0_0) := (blk_cell BK126.out 0).trans rfl
          have hcz14_1 : w9.cell? ⟨gb126, 1, none⟩ = some (.int .i64 a0_1) := (blk_cell BK126.out 1).trans rfl
          have hcz14_2 : w9.cell? ⟨gb126, 2, none⟩ = some (.int .i64 a0_2) := (blk_cell BK126.out 2).trans rfl
          have hcz14_3 : w9.cell? ⟨gb126, 3, none⟩ = some (.int .i64 a0_3) := (blk_cell BK126.out 3).trans rfl
          have hcz14_4 : w9.cell? ⟨gb126, 4, none⟩ = some (.int .i64 a0_4) := (blk_cell BK126.out 4).trans rfl
          have hcz14_5 : w9.cell? ⟨gb126, 5, none⟩ = some (.int .i64 a0_5) := (blk_cell BK126.out 5).trans rfl
          have hcz14_6 : w9.cell? ⟨gb126, 6, none⟩ = some (.int .i64 a0_6) := (blk_cell BK126.out 6).trans rfl
          have hcz14_7 : w9.cell? ⟨gb126, 7, none⟩ = some (.int .i64 a0_7) := (blk_cell BK126.out 7).trans rfl
          have hcz14_8 : w9.cell? ⟨gb126, 8, none⟩ = some (.int .i64 a0_8) := (blk_cell BK126.out 8).trans rfl
          have hcz14_9 : w9.cell? ⟨gb126, 9, none⟩ = some (.int .i64 a0_9) := (blk_cell BK126.out 9).trans rfl
          have hcz14_10 : w9.cell? ⟨gb126, 10, none⟩ = some (.int .i64 a0_10) := (blk_cell BK126.out 10).trans rfl
          have hcz14_11 : w9.cell? ⟨gb126, 11, none⟩ = some (.int .i64 a0_11) := (blk_cell BK126.out 11).trans rfl
          have hcz14_12 : w9.cell? ⟨gb126, 12, none⟩ = some (.string a0_12) := (blk_cell BK126.out 12).trans rfl
          have hfz14_0 := blk_frozen BK126.out 0
          have hfz14_1 := blk_frozen BK126.out 1
          have hfz14_2 := blk_frozen BK126.out 2
          have hfz14_3 := blk_frozen BK126.out 3
          have hfz14_4 := blk_frozen BK126.out 4
          have hfz14_5 := blk_frozen BK126.out 5
          have hfz14_6 := blk_frozen BK126.out 6
          have hfz14_7 := blk_frozen BK126.out 7
          have hfz14_8 := blk_frozen BK126.out 8
          have hfz14_9 := blk_frozen BK126.out 9
          have hfz14_10 := blk_frozen BK126.out 10
          have hfz14_11 := blk_frozen BK126.out 11
          have hfz14_12 := blk_frozen BK126.out 12
          go_wp2
          go_meet
          case rel => exact ⟨_, (false), (by first | rfl | (simp; done) | (simp [*]; done)), H', ⟨by first | omega | exact Nat.le_refl _⟩, ⟨by (with_reducible repeat (first | refine blk_drewN ?_ _ | refine blk_drew ?_ | refine blk_alloc ?_ _)); exact BK126.out⟩, ⟨by repeat (first | (with_reducible first | exact HB.out | apply below_alloc | apply pw_below_drewN | apply below_drew1 | refine below_set ?_ GE126.out) | exact HB.out)⟩⟩
      case rest =>
        clear HC8
        try clear c1
        try clear c2
        try clear c2b0
        try clear c2b1
        try clear p2
        try clear c5
        try clear c5b0
        try clear c5b1
        try clear c11
        try clear c11b0
        try clear c11b1
        try clear hcz10_0
        try clear hcz10_1
        try clear hcz10_10
        try clear hcz10_11
        try clear hcz10_12
        try clear hcz10_2
        try clear hcz10_3
        try clear hcz10_4
        try clear hcz10_5
        try clear hcz10_6
        try clear hcz10_7
        try clear hcz10_8
        try clear hcz10_9
        try clear hcz13_0
        try clear hcz13_1
        try clear hcz13_10
        try clear hcz13_11
        try clear hcz13_12
        try clear hcz13_2
        try clear hcz13_3
        try clear hcz13_4
        try clear hcz13_5
        try clear hcz13_6
        try clear hcz13_7
        try clear hcz13_8
        try clear hcz13_9
        try clear hcz14_0
        try clear hcz14_1
        try clear hcz14_10
        try clear hcz14_11
        try clear hcz14_12
        try clear hcz14_2
        try clear hcz14_3
        try clear hcz14_4
        try clear hcz14_5
        try clear hcz14_6
        try clear hcz14_7
        try clear hcz14_8
        try clear hcz14_9
        try clear hcz4_0
        try clear hcz4_1
        try clear hcz4_10
        try clear hcz4_11
        try clear hcz4_12
        try clear hcz4_2
        try clear hcz4_3
        try clear hcz4_4
        try clear hcz4_5
        try clear hcz4_6
        try clear hcz4_7
        try clear hcz4_8
        try clear hcz4_9
        try clear hcz7_0
        try clear hcz7_1
        try clear hcz7_10
        try clear hcz7_11
        try clear hcz7_12
        try clear hcz7_2
        try clear hcz7_3
        try clear hcz7_4
        try clear hcz7_5
        try clear hcz7_6
        try clear hcz7_7
        try clear hcz7_8
        try clear hcz7_9
        try clear hfz10_0
        try clear hfz10_1
        try clear hfz10_10
        try clear hfz10_11
        try clear hfz10_12
        try clear hfz10_2
        try clear hfz10_3
        try clear hfz10_4
        try clear hfz10_5
        try clear hfz10_6
        try clear hfz10_7
        try clear hfz10_8
        try clear hfz10_9
        try clear hfz13_0
        try clear hfz13_1
        try clear hfz13_10
        try clear hfz13_11
        try clear hfz13_12
        try clear hfz13_2
        try clear hfz13_3
        try clear hfz13_4
        try clear hfz13_5
        try clear hfz13_6
        try clear hfz13_7
        try clear hfz13_8
        try clear hfz13_9
        try clear hfz14_0
        try clear hfz14_1
        try clear hfz14_10
        try clear hfz14_11
        try clear hfz14_12
        try clear hfz14_2
        try clear hfz14_3
        try clear hfz14_4
        try clear hfz14_5
        try clear hfz14_6
        try clear hfz14_7
        try clear hfz14_8
        try clear hfz14_9
        try clear hfz4_0
        try clear hfz4_1
        try clear hfz4_10
        try clear hfz4_11
        try clear hfz4_12
        try clear hfz4_2
        try clear hfz4_3
        try clear hfz4_4
        try clear hfz4_5
        try clear hfz4_6
        try clear hfz4_7
        try clear hfz4_8
        try clear hfz4_9
        try clear hfz7_0
        try clear hfz7_1
        try clear hfz7_10
        try clear hfz7_11
        try clear hfz7_12
        try clear hfz7_2
        try clear hfz7_3
        try clear hfz7_4
        try clear hfz7_5
        try clear hfz7_6
        try clear hfz7_7
        try clear hfz7_8
        try clear hfz7_9
        obtain ⟨kq, x16_7, rfl, HA, HJ7, BK126, HB⟩ := hcut
        cases kq with
        | zero => exact absurd HA.out (by simp [domesdayref07_Mark.j0])
        | succ kj7 =>
          have H := HA.out
          clear HA
          simp only [domesdayref07_Mark.j0] at H
          by_cases c15 : x16_7 = true
          · subst c15
            have H1 : (some (⟨#[42]⟩ : ByteArray)) = some r := by rw [if_pos rfl] at H; exact H
            clear H
            have H := H1
            clear H1
            obtain rfl := Option.some.inj H
            go_wp2
            go_ret
            exact ⟨by first | rfl | (simp [errW_none, errW_some] <;> rfl) | (simp [*, errW_none, errW_some] <;> rfl), by repeat (first | (with_reducible first | exact HB.out | apply below_alloc | apply pw_below_drewN | apply below_drew1 | refine below_set ?_ GE126.out) | exact HB.out)⟩
          · replace c15 := Bool.eq_false_iff.mpr c15
            subst c15
            have H1 : (some (⟨#[]⟩ : ByteArray)) = some r := by rw [if_neg (show ¬ (false = true) by decide)] at H; exact H
            clear H
            have H := H1
            clear H1
            obtain rfl := Option.some.inj H
            go_wp2
            go_ret
            exact ⟨by first | rfl | (simp [errW_none, errW_some] <;> rfl) | (simp [*, errW_none, errW_some] <;> rfl), by repeat (first | (with_reducible first | exact HB.out | apply below_alloc | apply pw_below_drewN | apply below_drew1 | refine below_set ?_ GE126.out) | exact HB.out)⟩

end Go.Proofs.Ytngcecmfgjgigaa.QPermTexts
