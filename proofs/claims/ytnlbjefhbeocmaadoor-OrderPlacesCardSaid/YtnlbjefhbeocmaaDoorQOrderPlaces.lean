-- Made by a program of this session.
import Derived.Test.YtnlbjefhbeocmaaDoorXSortB
import Derived.Test.YtnlbjefhbeocmaaDoorVBm
namespace Go.Proofs.YtnlbjefhbeocmaaDoor.QOrderCompares
open Go.RowKit Go.Proofs.YtnlbjefhbeocmaaDoorW.PrintWords Go.Proofs.YtnlbjefhbeocmaaDoorW.PrintLast Go.Proofs.YtnlbjefhbeocmaaDoorW.PrintMore
attribute [local go_sem] max2_int min2_int max_two min_two max_three min_three max_four min_four   -- for this text's walks alone
open Go.Proofs.YtnlbjefhbeocmaaDoor.Ext
set_option linter.unusedVariables false
set_option linter.unusedSimpArgs false

theorem info4 : (Tryd.prog.info? 4).map (fun i => (i.zero, i.size, i.bytes)) = some (some (.bool false), 1, 1) := by kernel_rfl
/-! ### domesdaylaw10_OrderPlaces: function 7 -/
mutual
def domesdaylaw10_OrderPlaces.j0 : Nat → Int → List (S23) → Bool → Bool → Bool → Option (Bool)
 | 0, _, _, _, _, _ => none
 | k + 1, x0, x2, x19, x138000, x138001 => if x19 = true then ((domesdaylaw10_awake.f k).bind fun t140 => (some t140)) else ((order_Sort.f k x0 x138000 x138001 x2).bind fun t141 => (if 0 ≤ (x2.length : Int) then (if ((x2.length : Int) : Int).toNat ≤ 281474976710656 then (domesdaylaw10_OrderPlaces.l0 k x0 x2 t141 (List.replicate ((x2.length : Int) : Int).toNat false) ([] : List (S23)) 0 x138000 x138001) else (none)) else (none)))
def domesdaylaw10_OrderPlaces.l0 : Nat → Int → List (S23) → List Int → List Bool → List (S23) → Int → Bool → Bool → Option (Bool)
 | 0, _, _, _, _, _, _, _, _ => none
 | k + 1, x0, x2, x7, x8, x9, x10, x138000, x138001 => if x10 < (x7.length : Int) then (if 0 ≤ x10 then (if (rd x7 x10) < 0 then (none) else (if (rd x7 x10) ≥ (x2.length : Int) then (none) else (if 0 ≤ (rd x7 x10) then (if (rd x7 x10) < (x8.length : Int) then (if rdOf false x8 (rd x7 x10) = true then (none) else (if (rd x7 x10) < (x2.length : Int) then (if x9.length < 3518437208883 then (domesdaylaw10_OrderPlaces.l0 k x0 x2 x7 (x8.set ((rd x7 x10) : Int).toNat true) (x9 ++ [(⟨(rd_T23 x2 (rd x7 x10)).f0, (rd_T23 x2 (rd x7 x10)).f1, (rd_T23 x2 (rd x7 x10)).f2, (rd_T23 x2 (rd x7 x10)).f3⟩ : S23)]) (wrap64 (x10 + 1)) x138000 x138001) else (none)) else (none))) else (none)) else (none)))) else (none)) else ((order_Sort.f k x0 x138000 x138001 x9).bind fun t158 => (domesdaylaw10_OrderPlaces.l1 k x2 x7 t158 0))
def domesdaylaw10_OrderPlaces.l1 : Nat → List (S23) → List Int → List Int → Int → Option (Bool)
 | 0, _, _, _, _ => none
 | k + 1, x2, x7, x11, x12 => if x12 < (x11.length : Int) then (if 0 ≤ x12 then (if (rd x11 x12) = x12 then (domesdaylaw10_OrderPlaces.l1 k x2 x7 x11 (wrap64 (x12 + 1))) else (none)) else (none)) else (if (x7.length : Int) = (x2.length : Int) then (some ((x11.length : Int) == (x2.length : Int))) else (none))
end
def domesdaylaw10_OrderPlaces.f (k : Nat) (a0 : Int) (a1_0 : Bool) (a1_1 : Bool) (l2 : List (S23)) : Option (Bool) := (domesdaylaw10_awake.f k).bind fun t138 => (if t138 = true then ((domesdayref10_Few.f k l2 40).bind fun t139 => (domesdaylaw10_OrderPlaces.j0 k a0 l2 (!t139) a1_0 a1_1)) else (domesdaylaw10_OrderPlaces.j0 k a0 l2 true a1_0 a1_1))
set_option maxHeartbeats 8000000 in
set_option maxRecDepth 100000 in
theorem domesdaylaw10_OrderPlaces.calls (k : Nat) (a0 : Int) (a1_0 : Bool) (a1_1 : Bool) (A2 : Option Addr) (c2 : Nat) (l2 : List (S23)) (r : Bool) (w : World) (hr2 : Kd.C k23 w A2 l2.length l2) (hc2 : l2.length ≤ c2) (h : domesdaylaw10_OrderPlaces.f k a0 a1_0 a1_1 l2 = some r) :
  Calls Tryd.prog 7 #[.int .i64 a0, .agg #[.bool a1_0, .bool a1_1], .slice A2 l2.length c2] w fun e w' => e = .returned (.bool r) ∧ Below w.heap.size w w' := by
 have hu36 := Tryd.underlying36
 have hu23 := Tryd.underlying23
 have HR2 := Aside0.mk hr2
 have HC2 := Aside0.mk hc2
 clear hr2 hc2
 have HB := Aside0.mk (Below.refl w.heap.size w)
 have H : ((domesdaylaw10_awake.f k).bind fun t138 => (if t138 = true then ((domesdayref10_Few.f k l2 40).bind fun t139 => (domesdaylaw10_OrderPlaces.j0 k a0 l2 (!t139) a1_0 a1_1)) else (domesdaylaw10_OrderPlaces.j0 k a0 l2 true a1_0 a1_1))) = some r := h
 clear h
 have HC4 := Aside0.mk H
 clear H
 go_enter Tryd.func7, Tryd.ntmps7
 go_upto_region 1 with (first | ((with_reducible refine gate_dst (N := 4) rfl ?_); (try (refine gate_guard (by rfl) ?_; dsimp only)); refine box_event ?hg (N := 4) ?hd (cs := #[.bool a1_0, .bool a1_1]) (t := 36) ?hr ?_; (case hd => rfl); (case hg => rfl); (case hr => first | (go_simp; done) | (go_simp; rfl)); intro gb137 hg w5 hbox hb; have n0_ := Aside0.mk (below_step (by repeat (first | (with_reducible first | exact HB.out | apply below_alloc | apply pw_below_drewN | apply below_drew1) | exact HB.out)) hb); have n1_ := Aside0.mk (hbox); have n2_ := Aside0.mk ((by rw [hg]; exact (below_size (by repeat (first | (with_reducible first | exact HB.out | apply below_alloc | apply pw_below_drewN | apply below_drew1) | exact HB.out))) : w.heap.size ≤ gb137)); have n3_ := Aside0.mk ((by rw [hg]; exact (below_size (by repeat (first | (with_reducible first | exact HB.out | apply below_alloc | apply pw_below_drewN | apply below_drew1) | exact HB.out))) : w.heap.size ≤ gb137)); clear HB; have HB := n0_; have BK137 := n1_; have GW137 := n2_; have GE137 := n3_; clear n0_ n1_ n2_ n3_; clear hb hbox hg))
 (try simp only [Act.put, List.setIfInBounds_toArray, List.set_cons_zero, List.set_cons_succ])
 go_cut [19] (fun v19 wc => ∃ (kq : Nat) (x19_3 : Bool), v19 = .bool x19_3 ∧ Aside0 (domesdaylaw10_OrderPlaces.j0 kq a0 l2 x19_3 a1_0 a1_1 = some r) ∧ Aside0 (kq ≤ k) ∧ Aside0 (wc.heap[gb137]? = some (.cells #[.bool a1_0, .bool a1_1] 36 (0, 0))) ∧ Aside0 (Below w.heap.size w wc))
 case first =>
  have H := HC4.out
  clear HC4
  replace H := Option.bind_eq_some_iff.mp H
  obtain ⟨t138, A60, H⟩ := H
  replace H : (if t138 = true then ((domesdayref10_Few.f k l2 40).bind fun t139 => (domesdaylaw10_OrderPlaces.j0 k a0 l2 (!t139) a1_0 a1_1)) else (domesdaylaw10_OrderPlaces.j0 k a0 l2 true a1_0 a1_1)) = some r := H
  have A6 := Aside0.mk A60
  clear A60
  by_cases c7 : t138 = true
  ·subst c7
   have H1 : ((domesdayref10_Few.f k l2 40).bind fun t139 => (domesdaylaw10_OrderPlaces.j0 k a0 l2 (!t139) a1_0 a1_1)) = some r := by rw [if_pos rfl] at H; exact H
   clear H
   have H := H1
   clear H1
   replace H := Option.bind_eq_some_iff.mp H
   obtain ⟨t139, A80, H⟩ := H
   replace H : (domesdaylaw10_OrderPlaces.j0 k a0 l2 (!t139) a1_0 a1_1) = some r := H
   have A8 := Aside0.mk A80
   clear A80
   have H' := Aside0.mk H
   clear H
   go_wp2_with (first | ((with_reducible refine gate_callee (f := 8) rfl ?_); refine goesL_ (some 13) rfl rfl Tryd.func8 (by kernel_rfl) rfl #[] rfl (by (try simp only [List.map_toArray, List.map_cons, List.map_nil]); first | done | rfl | (simp only [List.length_drop, List.length_take]; rfl)) ?_; (with_reducible refine (domesdaylaw10_awake.calls k  true _ A6.out).mono ?_); rintro e w9 ⟨rfl, hb⟩; refine ⟨_, rfl, ?_⟩; have n0_ := Aside0.mk (blk_below (g := gb137) (o := .cells #[.bool a1_0, .bool a1_1] 36 (0, 0)) (by (with_reducible repeat (first | refine blk_drewN ?_ _ | refine blk_drew ?_ | refine blk_alloc ?_ _)); exact BK137.out) hb); have n1_ := Aside0.mk (below_step (by repeat (first | (with_reducible first | exact HB.out | apply below_alloc | apply pw_below_drewN | apply below_drew1 | refine below_set ?_ GE137.out) | exact HB.out)) hb); clear BK137; clear HB; have BK137 := n0_; have HB := n1_; clear n0_ n1_; (try clear hb); (try clear hb2); (try clear hk); (try clear hi)) | (go_at_call 9; (with_reducible refine (domesdayref10_Few.calls k _ _ l2 40 t139 _ ?side1 ?side2 A8.out).mono ?_); (case side1 => repeat (first | exact (Kd.C_below HR2.out HB.out) | (with_reducible refine Kd.C_alloc ?_ _) | (with_reducible refine Kd.C_drewN ?_ _) | (with_reducible refine Kd.C_drew ?_))); (case side2 => exact HC2.out); rintro e w' ⟨rfl, ⟨nd, rfl⟩⟩))
   go_meet
   case rel => exact ⟨_, (!t139), (by first | rfl | (simp; done) | (simp [*]; done)), H', ⟨by first | omega | exact Nat.le_refl _⟩, ⟨by (with_reducible repeat (first | refine blk_drewN ?_ _ | refine blk_drew ?_ | refine blk_alloc ?_ _)); exact BK137.out⟩, ⟨by repeat (first | (with_reducible first | exact HB.out | apply below_alloc | apply pw_below_drewN | apply below_drew1 | refine below_set ?_ GE137.out) | exact HB.out)⟩⟩
  ·replace c7 := Bool.eq_false_iff.mpr c7
   subst c7
   have H1 : (domesdaylaw10_OrderPlaces.j0 k a0 l2 true a1_0 a1_1) = some r := by rw [if_neg (show ¬ (false = true) by decide)] at H; exact H
   clear H
   have H := H1
   clear H1
   have H' := Aside0.mk H
   clear H
   go_wp2_with (first | ((with_reducible refine gate_callee (f := 8) rfl ?_); refine goesL_ (some 13) rfl rfl Tryd.func8 (by kernel_rfl) rfl #[] rfl (by (try simp only [List.map_toArray, List.map_cons, List.map_nil]); first | done | rfl | (simp only [List.length_drop, List.length_take]; rfl)) ?_; (with_reducible refine (domesdaylaw10_awake.calls k  false _ A6.out).mono ?_); rintro e w10 ⟨rfl, hb⟩; refine ⟨_, rfl, ?_⟩; have n0_ := Aside0.mk (blk_below (g := gb137) (o := .cells #[.bool a1_0, .bool a1_1] 36 (0, 0)) (by (with_reducible repeat (first | refine blk_drewN ?_ _ | refine blk_drew ?_ | refine blk_alloc ?_ _)); exact BK137.out) hb); have n1_ := Aside0.mk (below_step (by repeat (first | (with_reducible first | exact HB.out | apply below_alloc | apply pw_below_drewN | apply below_drew1 | refine below_set ?_ GE137.out) | exact HB.out)) hb); clear BK137; clear HB; have BK137 := n0_; have HB := n1_; clear n0_ n1_; (try clear hb); (try clear hb2); (try clear hk); (try clear hi)))
   go_meet
   case rel => exact ⟨_, (true), (by first | rfl | (simp; done) | (simp [*]; done)), H', ⟨by first | omega | exact Nat.le_refl _⟩, ⟨by (with_reducible repeat (first | refine blk_drewN ?_ _ | refine blk_drew ?_ | refine blk_alloc ?_ _)); exact BK137.out⟩, ⟨by repeat (first | (with_reducible first | exact HB.out | apply below_alloc | apply pw_below_drewN | apply below_drew1 | refine below_set ?_ GE137.out) | exact HB.out)⟩⟩
 case rest =>
  clear HC4
  (try clear c2); (try clear p2); (try clear c7); (try clear c8)
  obtain ⟨kq, x19_3, rfl, HA, HJ3, BK137, HB⟩ := hcut
  cases kq with
  | zero => exact absurd HA.out (by simp [domesdaylaw10_OrderPlaces.j0])
  | succ kj3 =>
   have H := HA.out
   clear HA
   simp only [domesdaylaw10_OrderPlaces.j0] at H
   by_cases c11 : x19_3 = true
   ·subst c11
    have H1 : ((domesdaylaw10_awake.f kj3).bind fun t140 => (some t140)) = some r := by rw [if_pos rfl] at H; exact H
    clear H
    have H := H1
    clear H1
    replace H := Option.bind_eq_some_iff.mp H
    obtain ⟨t140, A120, H⟩ := H
    replace H : (some t140) = some r := H
    have A12 := Aside0.mk A120
    clear A120
    obtain rfl := Option.some.inj H
    go_wp2_with (first | ((with_reducible refine gate_callee (f := 8) rfl ?_); refine goesL_ (some 20) rfl rfl Tryd.func8 (by kernel_rfl) rfl #[] rfl (by (try simp only [List.map_toArray, List.map_cons, List.map_nil]); first | done | rfl | (simp only [List.length_drop, List.length_take]; rfl)) ?_; (with_reducible refine (domesdaylaw10_awake.calls kj3  t140 _ A12.out).mono ?_); rintro e w13 ⟨rfl, hb⟩; refine ⟨_, rfl, ?_⟩; have n0_ := Aside0.mk (blk_below (g := gb137) (o := .cells #[.bool a1_0, .bool a1_1] 36 (0, 0)) (by (with_reducible repeat (first | refine blk_drewN ?_ _ | refine blk_drew ?_ | refine blk_alloc ?_ _)); exact BK137.out) hb); have n1_ := Aside0.mk (below_step (by repeat (first | (with_reducible first | exact HB.out | apply below_alloc | apply pw_below_drewN | apply below_drew1 | refine below_set ?_ GE137.out) | exact HB.out)) hb); clear BK137; clear HB; have BK137 := n0_; have HB := n1_; clear n0_ n1_; (try clear hb); (try clear hb2); (try clear hk); (try clear hi)))
    go_ret
    exact ⟨by first | rfl | (simp [errW_none, errW_some] <;> rfl) | (simp [*, errW_none, errW_some] <;> rfl), by repeat (first | (with_reducible first | exact HB.out | apply below_alloc | apply pw_below_drewN | apply below_drew1 | refine below_set ?_ GE137.out) | exact HB.out)⟩
   ·replace c11 := Bool.eq_false_iff.mpr c11
    subst c11
    have H1 : ((order_Sort.f kj3 a0 a1_0 a1_1 l2).bind fun t141 => (if 0 ≤ (l2.length : Int) then (if ((l2.length : Int) : Int).toNat ≤ 281474976710656 then (domesdaylaw10_OrderPlaces.l0 kj3 a0 l2 t141 (List.replicate ((l2.length : Int) : Int).toNat false) ([] : List (S23)) 0 a1_0 a1_1) else (none)) else (none))) = some r := by rw [if_neg (show ¬ (false = true) by decide)] at H; exact H
    clear H
    have H := H1
    clear H1
    replace H := Option.bind_eq_some_iff.mp H
    obtain ⟨t141, A140, H⟩ := H
    replace H : (if 0 ≤ (l2.length : Int) then (if ((l2.length : Int) : Int).toNat ≤ 281474976710656 then (domesdaylaw10_OrderPlaces.l0 kj3 a0 l2 t141 (List.replicate ((l2.length : Int) : Int).toNat false) ([] : List (S23)) 0 a1_0 a1_1) else (none)) else (none)) = some r := H
    have A14 := Aside0.mk A140
    clear A140
    by_cases c15 : 0 ≤ (l2.length : Int)
    ·rw [if_pos c15] at H
     have c15b0 := eq_true c15
     have c15b1 : decide (0 ≤ (l2.length : Int)) = true := decide_eq_true c15
     clear c15
     by_cases c16 : ((l2.length : Int) : Int).toNat ≤ 281474976710656
     ·rw [if_pos c16] at H
      have c16b0 := eq_true c16
      have c16b1 : decide (((l2.length : Int) : Int).toNat ≤ 281474976710656) = true := decide_eq_true c16
      clear c16
      obtain ⟨y144, hy144⟩ : ∃ y_ : List Bool, y_ = (List.replicate ((l2.length : Int) : Int).toNat false) := ⟨_, rfl⟩
      replace H : (domesdaylaw10_OrderPlaces.l0 kj3 a0 l2 t141 y144 ([] : List (S23)) 0 a1_0 a1_1) = some r := by first | (rw [hy144]; with_reducible exact H) | (have H2_ := (Option.bind_some _ _).symm.trans H; rw [hy144]; with_reducible exact H2_) | (have H2_ := (Option.bind_some _ _).symm.trans H; with_reducible exact H2_) | with_reducible exact H | (rw [hy144]; exact H) | exact H
      have Ny144 := Aside0.mk hy144
      clear hy144
      have H' := Aside0.mk H
      clear H
      have hcz17_0 : wc.cell? ⟨gb137, 0, none⟩ = some (.bool a1_0) := (blk_cell BK137.out 0).trans rfl; have hcz17_1 : wc.cell? ⟨gb137, 1, none⟩ = some (.bool a1_1) := (blk_cell BK137.out 1).trans rfl; have hfz17_0 := blk_frozen BK137.out 0; have hfz17_1 := blk_frozen BK137.out 1
      go_wp2_with (first | ((with_reducible refine gate_callee (f := 16) rfl ?_); refine goesL_ (some 27) rfl rfl Tryd.func16 (by kernel_rfl) rfl #[.int .i64 a0, .bool a1_0, .bool a1_1, .slice A2 l2.length c2] rfl (by (try simp only [List.map_toArray, List.map_cons, List.map_nil]); first | done | rfl | (simp only [List.length_drop, List.length_take]; rfl)) ?_; (with_reducible refine (order_Sort.calls kj3 a0 a1_0 a1_1 _ _ l2 t141 _ ?side1 ?side2 A14.out).mono ?_); (case side1 => repeat (first | exact (Kd.C_below HR2.out HB.out) | (with_reducible refine Kd.C_alloc ?_ _) | (with_reducible refine Kd.C_drewN ?_ _) | (with_reducible refine Kd.C_drew ?_))); (case side2 => exact HC2.out); rintro e w18 ⟨v142, rfl, ho0, hb⟩; refine ⟨_, rfl, ?_⟩; have n0_ := Aside0.mk (Kd.R_lower ho0 (below_size (by repeat (first | (with_reducible first | exact HB.out | apply below_alloc | apply pw_below_drewN | apply below_drew1 | refine below_set ?_ GE137.out) | exact HB.out)))); have n1_ := Aside0.mk (blk_below (g := gb137) (o := .cells #[.bool a1_0, .bool a1_1] 36 (0, 0)) (by (with_reducible repeat (first | refine blk_drewN ?_ _ | refine blk_drew ?_ | refine blk_alloc ?_ _)); exact BK137.out) hb); have n2_ := Aside0.mk (below_step (by repeat (first | (with_reducible first | exact HB.out | apply below_alloc | apply pw_below_drewN | apply below_drew1 | refine below_set ?_ GE137.out) | exact HB.out)) hb); clear BK137; clear HB; have HO143 := n0_; have BK137 := n1_; have HB := n2_; clear n0_ n1_ n2_; (try clear hb); (try clear hb2); (try clear hk); (try clear hi); (try clear ho0)) | ((with_reducible refine gate_dst (N := 30) rfl ?_); (try (refine gate_guard (by rfl) ?_; dsimp only)); refine Kd.R_make Kd.bool _ 4 rfl (N := 30) rfl 38 _ _ rfl (l2.length : Int) rfl rfl Tryd.underlying38 (.bool false) 1 info4 rfl (by decide) (by omega) false (ok := fun _ => True) (okp := fun _ => True) rfl (fun _ hk => hk) trivial (of_decide_eq_true (by first | (with_reducible assumption) | assumption)) (Nat.le_trans (Nat.mul_le_mul_right _ (of_decide_eq_true (by first | (with_reducible assumption) | assumption) : (l2.length : Int).toNat ≤ 281474976710656)) (by omega)) (Below.refl _ _) (Nat.le_refl _) ?_; intro v145 w19 ho20 hb hg_ hnew_; clear hg_ hnew_; (first | rw [← Ny144.out] at ho20 | (simp only [Int.reduceToNat] at ho20; rw [← Ny144.out] at ho20)); have n0_ := Aside0.mk (Kd.R_below (by (with_reducible repeat (first | apply Kd.R_alloc | apply Kd.R_drewN | apply Kd.R_drew)); exact HO143.out) hb); have n1_ := Aside0.mk (Kd.R_lower ho20 (below_size (by repeat (first | (with_reducible first | exact HB.out | apply below_alloc | apply pw_below_drewN | apply below_drew1 | refine below_set ?_ GE137.out) | exact HB.out)))); have n2_ := Aside0.mk (blk_below (g := gb137) (o := .cells #[.bool a1_0, .bool a1_1] 36 (0, 0)) (by (with_reducible repeat (first | refine blk_drewN ?_ _ | refine blk_drew ?_ | refine blk_alloc ?_ _)); exact BK137.out) hb); have n3_ := Aside0.mk (below_step (by repeat (first | (with_reducible first | exact HB.out | apply below_alloc | apply pw_below_drewN | apply below_drew1 | refine below_set ?_ GE137.out) | exact HB.out)) hb); clear HO143; clear BK137; clear HB; have HO143 := n0_; have HO146 := n1_; have BK137 := n2_; have HB := n3_; clear n0_ n1_ n2_ n3_; clear hb ho20))
      go_loopg [9, 10] kj3 (fun kq v9 v10 w' => ∃ (x8_2 : List Bool) (x9_2 : List (S23)) (x10_2 : Int), v10 = .int .i64 x10_2 ∧ Aside0 (domesdaylaw10_OrderPlaces.l0 kq a0 l2 t141 x8_2 x9_2 x10_2 a1_0 a1_1 = some r) ∧ Aside0 (kq ≤ kj3) ∧ Aside0 (Kd.R (Kd.int .i64) 3 w' w.heap.size (fun _ => True) v142 t141) ∧ Aside0 (Kd.R Kd.bool 4 w' w.heap.size (fun _ => True) v145 x8_2) ∧ Aside0 (Kd.R k23 23 w' w.heap.size (fun _ => True) v9 x9_2) ∧ Aside0 (w'.heap[gb137]? = some (.cells #[.bool a1_0, .bool a1_1] 36 (0, 0))) ∧ Aside0 (Below w.heap.size w w'))
      case atStart => exact ⟨(y144), (([] : List (S23))), (0), (by first | rfl | (simp; done) | (simp [*]; done)), H', ⟨Nat.le_refl _⟩, ⟨by (with_reducible repeat (first | apply Kd.R_alloc | apply Kd.R_drewN | apply Kd.R_drew)); exact HO143.out⟩, ⟨by (with_reducible repeat (first | apply Kd.R_alloc | apply Kd.R_drewN | apply Kd.R_drew)); exact HO146.out⟩, ⟨by first | exact Kd.R_nil _ _ _ _ _ | exact Kd.N_nil _ _ _ _ _ | exact Kd.V_nil _ _ _ _ _ | exact Kd.Q_nil _ _ _ _ _ | exact Kd.S_nil _ _ _ _ _⟩, ⟨by (with_reducible repeat (first | refine blk_drewN ?_ _ | refine blk_drew ?_ | refine blk_alloc ?_ _)); exact BK137.out⟩, ⟨by repeat (first | (with_reducible first | exact HB.out | apply below_alloc | apply pw_below_drewN | apply below_drew1 | refine below_set ?_ GE137.out) | exact HB.out)⟩⟩
      case round =>
       clear H'
       (try clear c1); (try clear c2); (try clear p2); (try clear c7); (try clear c8); (try clear c11); (try clear c15); (try clear c15b0); (try clear c15b1); (try clear c16); (try clear c16b0); (try clear c16b1); (try clear hcz17_0); (try clear hcz17_1); (try clear hfz17_0); (try clear hfz17_1); (try clear p2)
       obtain ⟨x8_2, x9_2, x10_2, rfl, HA, HK2, HO_7, HO_8, HO_9, BK137, HB⟩ := hrel
       cases gk with
       | zero => exact absurd HA.out (by simp [domesdaylaw10_OrderPlaces.l0])
       | succ k2 =>
        have H := HA.out
        clear HA
        simp only [domesdaylaw10_OrderPlaces.l0] at H
        by_cases c21 : x10_2 < (t141.length : Int)
        ·rw [if_pos c21] at H
         have c21b0 : decide (x10_2 < (t141.length : Int)) = true := decide_eq_true c21
         clear c21
         by_cases c22 : 0 ≤ x10_2
         ·rw [if_pos c22] at H
          have c22b0 : decide (0 ≤ x10_2) = true := decide_eq_true c22
          clear c22
          by_cases c23 : (rd t141 x10_2) < 0
          ·rw [if_pos c23] at H
           exact absurd H (by simp)
          ·rw [if_neg c23] at H
           have c23b0 : decide ((rd t141 x10_2) < 0) = false := decide_eq_false c23
           clear c23
           by_cases c24 : (rd t141 x10_2) ≥ (l2.length : Int)
           ·rw [if_pos c24] at H
            exact absurd H (by simp)
           ·rw [if_neg c24] at H
            have c24b0 : decide ((l2.length : Int) ≤ (rd t141 x10_2)) = false := decide_eq_false c24
            clear c24
            by_cases c25 : 0 ≤ (rd t141 x10_2)
            ·rw [if_pos c25] at H
             have c25b0 : decide (0 ≤ (rd t141 x10_2)) = true := decide_eq_true c25
             clear c25
             by_cases c26 : (rd t141 x10_2) < (x8_2.length : Int)
             ·rw [if_pos c26] at H
              have c26b0 : decide ((rd t141 x10_2) < (x8_2.length : Int)) = true := decide_eq_true c26
              clear c26
              obtain ⟨bq27, hbq27⟩ : ∃ b_ : Bool, b_ = (rdOf false x8_2 (rd t141 x10_2)) := ⟨_, rfl⟩
              replace H : (if bq27 = true then (none) else (if (rd t141 x10_2) < (l2.length : Int) then (if x9_2.length < 3518437208883 then (domesdaylaw10_OrderPlaces.l0 k2 a0 l2 t141 (x8_2.set ((rd t141 x10_2) : Int).toNat true) (x9_2 ++ [(⟨(rd_T23 l2 (rd t141 x10_2)).f0, (rd_T23 l2 (rd t141 x10_2)).f1, (rd_T23 l2 (rd t141 x10_2)).f2, (rd_T23 l2 (rd t141 x10_2)).f3⟩ : S23)]) (wrap64 (x10_2 + 1)) a1_0 a1_1) else (none)) else (none))) = some r := by rw [← hbq27] at H; exact H
              have Nbq27 := Aside0.mk hbq27
              clear hbq27
              by_cases c28 : bq27 = true
              ·subst c28
               have H1 : (none) = some r := by rw [if_pos rfl] at H; exact H
               clear H
               have H := H1
               clear H1
               exact absurd H (by simp)
              ·replace c28 := Bool.eq_false_iff.mpr c28
               subst c28
               have H1 : (if (rd t141 x10_2) < (l2.length : Int) then (if x9_2.length < 3518437208883 then (domesdaylaw10_OrderPlaces.l0 k2 a0 l2 t141 (x8_2.set ((rd t141 x10_2) : Int).toNat true) (x9_2 ++ [(⟨(rd_T23 l2 (rd t141 x10_2)).f0, (rd_T23 l2 (rd t141 x10_2)).f1, (rd_T23 l2 (rd t141 x10_2)).f2, (rd_T23 l2 (rd t141 x10_2)).f3⟩ : S23)]) (wrap64 (x10_2 + 1)) a1_0 a1_1) else (none)) else (none)) = some r := by rw [if_neg (show ¬ (false = true) by decide)] at H; exact H
               clear H
               have H := H1
               clear H1
               obtain ⟨y152, hy152⟩ : ∃ y_ : List Bool, y_ = (x8_2.set ((rd t141 x10_2) : Int).toNat true) := ⟨_, rfl⟩
               replace H : (if (rd t141 x10_2) < (l2.length : Int) then (if x9_2.length < 3518437208883 then (domesdaylaw10_OrderPlaces.l0 k2 a0 l2 t141 y152 (x9_2 ++ [(⟨(rd_T23 l2 (rd t141 x10_2)).f0, (rd_T23 l2 (rd t141 x10_2)).f1, (rd_T23 l2 (rd t141 x10_2)).f2, (rd_T23 l2 (rd t141 x10_2)).f3⟩ : S23)]) (wrap64 (x10_2 + 1)) a1_0 a1_1) else (none)) else (none)) = some r := by first | (rw [hy152]; with_reducible exact H) | (have H2_ := (Option.bind_some _ _).symm.trans H; rw [hy152]; with_reducible exact H2_) | (have H2_ := (Option.bind_some _ _).symm.trans H; with_reducible exact H2_) | with_reducible exact H | (rw [hy152]; exact H) | exact H
               have Ny152 := Aside0.mk hy152
               clear hy152
               by_cases c30 : (rd t141 x10_2) < (l2.length : Int)
               ·rw [if_pos c30] at H
                have c30b0 : decide ((rd t141 x10_2) < (l2.length : Int)) = true := decide_eq_true c30
                clear c30
                by_cases c31 : x9_2.length < 3518437208883
                ·rw [if_pos c31] at H
                 have LMc31 := Aside0.mk c31
                 clear c31
                 obtain ⟨y155, hy155⟩ : ∃ y_ : List (S23), y_ = (x9_2 ++ [(⟨(rd_T23 l2 (rd t141 x10_2)).f0, (rd_T23 l2 (rd t141 x10_2)).f1, (rd_T23 l2 (rd t141 x10_2)).f2, (rd_T23 l2 (rd t141 x10_2)).f3⟩ : S23)]) := ⟨_, rfl⟩
                 replace H : (domesdaylaw10_OrderPlaces.l0 k2 a0 l2 t141 y152 y155 (wrap64 (x10_2 + 1)) a1_0 a1_1) = some r := by first | (rw [hy155]; with_reducible exact H) | (have H2_ := (Option.bind_some _ _).symm.trans H; rw [hy155]; with_reducible exact H2_) | (have H2_ := (Option.bind_some _ _).symm.trans H; with_reducible exact H2_) | with_reducible exact H | (rw [hy155]; exact H) | exact H
                 have Ny155 := Aside0.mk hy155
                 clear hy155
                 have H' := Aside0.mk H
                 clear H
                 obtain ⟨Ao32, co32, eo32⟩ := Kd.R_slice HO_7.out
                 subst eo32
                 have p147 : 0 ≤ (x10_2 : Int) := of_decide_eq_true (by first | (with_reducible assumption) | assumption)
                 have q147 : x10_2 < (t141.length : Int) := of_decide_eq_true (by first | (with_reducible assumption) | assumption)
                 obtain ⟨ad147, e147, hx147_0⟩ := Kd.at_int (Kd.R_reads' HO_7.out).2.2 x10_2 p147 q147
                 cases e147
                 replace p147 := eq_true p147
                 replace q147 := eq_true q147
                 have p148 : 0 ≤ (x10_2 : Int) := of_decide_eq_true (by first | (with_reducible assumption) | assumption)
                 have q148 : x10_2 < (t141.length : Int) := of_decide_eq_true (by first | (with_reducible assumption) | assumption)
                 obtain ⟨ad148, e148, hx148_0⟩ := Kd.at_int (Kd.R_reads' HO_7.out).2.2 x10_2 p148 q148
                 obtain rfl : ad147 = ad148 := (by injection e148)
                 replace p148 := eq_true p148
                 replace q148 := eq_true q148
                 have p149 : 0 ≤ (x10_2 : Int) := of_decide_eq_true (by first | (with_reducible assumption) | assumption)
                 have q149 : x10_2 < (t141.length : Int) := of_decide_eq_true (by first | (with_reducible assumption) | assumption)
                 obtain ⟨ad149, e149, hx149_0⟩ := Kd.at_int (Kd.R_reads' HO_7.out).2.2 x10_2 p149 q149
                 obtain rfl : ad147 = ad149 := (by injection e149)
                 replace p149 := eq_true p149
                 replace q149 := eq_true q149
                 obtain ⟨Ao33, co33, eo33⟩ := Kd.R_slice HO_8.out
                 subst eo33
                 have p150 : 0 ≤ ((rd t141 x10_2) : Int) := of_decide_eq_true (by first | (with_reducible assumption) | assumption)
                 have q150 : (rd t141 x10_2) < (x8_2.length : Int) := of_decide_eq_true (by first | (with_reducible assumption) | assumption)
                 obtain ⟨ad150, e150, hx150_0⟩ := Kd.at_bool (Kd.R_reads' HO_8.out).2.2 (rd t141 x10_2) p150 q150
                 (try rw [← Nbq27.out] at hx150_0)
                 cases e150
                 replace p150 := eq_true p150
                 replace q150 := eq_true q150
                 have p151 : 0 ≤ (x10_2 : Int) := of_decide_eq_true (by first | (with_reducible assumption) | assumption)
                 have q151 : x10_2 < (t141.length : Int) := of_decide_eq_true (by first | (with_reducible assumption) | assumption)
                 obtain ⟨ad151, e151, hx151_0⟩ := Kd.at_int (Kd.R_reads' HO_7.out).2.2 x10_2 p151 q151
                 obtain rfl : ad147 = ad151 := (by injection e151)
                 replace p151 := eq_true p151
                 replace q151 := eq_true q151
                 have p29 : 0 ≤ ((rd t141 x10_2) : Int) := of_decide_eq_true (by first | (with_reducible assumption) | assumption)
                 have q29 : ((rd t141 x10_2) : Int) < ((x8_2.length : Int) : Int) := of_decide_eq_true (by first | (with_reducible assumption) | assumption)
                 obtain ⟨go29, co29, eo29, gb29, gl29, cl29, HG29⟩ := Kd.R_form HO_8.out (by omega)
                 (first | cases eo29 | (injection eo29 with ea_ en_ ec_; (first | subst ea_ | (injection ea_ with ea_; subst ea_)); subst ec_; clear en_))
                 have GB29 := Aside0.mk gb29
                 have GG29 := Aside0.mk HG29
                 clear gb29 gl29 HG29
                 (first | simp only [add_plain] at hx150_0 | skip)
                 obtain ⟨hx29_0, hf29_0⟩ := Kd.R_celln false HO_8.out ((rd t141 x10_2) : Int) p29 q29
                 replace p29 := eq_true p29
                 replace q29 := eq_true q29
                 have HP34 := Kd.R_putg HO_8.out ((rd t141 x10_2) : Int) true
                 go_wp2_with (first | ((with_reducible refine gate_store (t := 4) (p := 65) rfl ?_); refine store_event (t := 4) (p := 65) (v := ?vo_w35) (w1 := (wr.setCell ⟨go29, ((rd t141 x10_2) : Int).toNat, none⟩ (.bool true))) ?hg ?ho ?hn ?hr ?_; (case ho => rfl); (case hg => rfl); (case hn => rfl); (case hr => first | (go_simp; done) | (go_simp; rfl)); intro w35 hw; have hg : wr.grownBy w35 (some go29) := (by rw [hw]; exact HP34.2); have hp_ : Kd.R Kd.bool 4 w35 w.heap.size (fun _ => True) (.slice (some ⟨go29, 0, none⟩) x8_2.length co33) y152 := (by rw [hw, Ny152.out]; exact HP34.1); clear HP34; have n0_ := Aside0.mk (Kd.R_over' (v := (.slice (some ⟨go29, 0, none⟩) x8_2.length co33)) (by (with_reducible repeat (first | apply Kd.R_alloc | apply Kd.R_drewN | apply Kd.R_drew)); exact HO_7.out) (Kd.R_typed HO_8.out) (by decide) hg); have n1_ := Aside0.mk (hp_); have n2_ := Aside0.mk (Kd.R_over' (v := (.slice (some ⟨go29, 0, none⟩) x8_2.length co33)) (by (with_reducible repeat (first | apply Kd.R_alloc | apply Kd.R_drewN | apply Kd.R_drew)); exact HO_9.out) (Kd.R_typed HO_8.out) (by decide) hg); have n3_ := Aside0.mk (blk_grown (g := gb137) (o := .cells #[.bool a1_0, .bool a1_1] 36 (0, 0)) (by (with_reducible repeat (first | refine blk_drewN ?_ _ | refine blk_drew ?_ | refine blk_alloc ?_ _)); exact BK137.out) hg (Kd.R_ne HO_8.out BK137.out (by decide))); have n4_ := Aside0.mk ((by rw [hw]; exact below_set (HB.out) GB29.out : Below w.heap.size w w35)); clear HO_7; clear HO_8; clear HO_9; clear BK137; clear HB; have HO_7 := n0_; have HO_8 := n1_; have HO_9 := n2_; have BK137 := n3_; have HB := n4_; clear n0_ n1_ n2_ n3_ n4_; clear hg hw hp_; have p153 : 0 ≤ (x10_2 : Int) := of_decide_eq_true (by first | (with_reducible assumption) | assumption); have q153 : x10_2 < (t141.length : Int) := of_decide_eq_true (by first | (with_reducible assumption) | assumption); obtain ⟨ad153, e153, hx153_0⟩ := Kd.at_int (Kd.R_reads' HO_7.out).2.2 x10_2 p153 q153; obtain rfl : ad147 = ad153 := (by injection e153); replace p153 := eq_true p153; replace q153 := eq_true q153; have p154 : 0 ≤ ((rd t141 x10_2) : Int) := of_decide_eq_true (by first | (with_reducible assumption) | assumption); have q154 : (rd t141 x10_2) < (l2.length : Int) := of_decide_eq_true (by first | (with_reducible assumption) | assumption); obtain ⟨ad154, e154, hx154_0, hx154_1, hx154_2, hx154_3⟩ := at_T23 HR2.out (rd t141 x10_2) p154 q154; (try rw [← Nbq27.out] at hx154_3); cases e154; replace hx154_0 := (HB.out.cell (World.block_lt_of_cell? w _ hx154_0)).trans hx154_0; replace hx154_1 := (HB.out.cell (World.block_lt_of_cell? w _ hx154_1)).trans hx154_1; replace hx154_2 := (HB.out.cell (World.block_lt_of_cell? w _ hx154_2)).trans hx154_2; replace hx154_3 := (HB.out.cell (World.block_lt_of_cell? w _ hx154_3)).trans hx154_3; replace p154 := eq_true p154; replace q154 := eq_true q154) | ((with_reducible refine gate_builtin (b := .append) (xs := #[.tmp 66, .tmp 74]) rfl ?_); (try (refine gate_guard (by rfl) ?_; dsimp only)); at_builtin; refine Kd.R_append k23 (w0 := w) w.heap.size rfl (.tmp 66) (.tmp 74) 26 23 (.agg #[(.string ⟨#[]⟩), (.int .i64 0), (.int .i64 0), (.bool false)]) 40 rfl Tryd.underlying26 info23 rfl (by decide) (by omega) u9 x9_2 (⟨(rd_T23 l2 (rd t141 x10_2)).f0, (rd_T23 l2 (rd t141 x10_2)).f1, (rd_T23 l2 (rd t141 x10_2)).f2, (rd_T23 l2 (rd t141 x10_2)).f3⟩ : S23) [.string ((rd_T23 l2 (rd t141 x10_2)).f0), .int .i64 ((rd_T23 l2 (rd t141 x10_2)).f1), .int .i64 ((rd_T23 l2 (rd t141 x10_2)).f2), .bool ((rd_T23 l2 (rd t141 x10_2)).f3)] (fun _ => True) (fun _ => False) rfl rfl ?aP (fun _ hk => hk.elim) ?aF ?aO ?aB ?aS ?aL ?_; (case aP => exact k23_mkM _ _ _ (⟨(rd_T23 l2 (rd t141 x10_2)).f0, (rd_T23 l2 (rd t141 x10_2)).f1, (rd_T23 l2 (rd t141 x10_2)).f2, (rd_T23 l2 (rd t141 x10_2)).f3⟩ : S23)); (case aB => exact (by repeat (first | (with_reducible first | exact HB.out | apply below_alloc | apply pw_below_drewN | apply below_drew1 | refine below_set ?_ GE137.out) | exact HB.out))); (case aF => exact (fun _ _ => trivial)); (case aO => exact (by (with_reducible repeat (first | apply Kd.R_alloc | apply Kd.R_drewN | apply Kd.R_drew)); exact HO_9.out)); (case aS => exact (below_size (by repeat (first | (with_reducible first | exact HB.out | apply below_alloc | apply pw_below_drewN | apply below_drew1 | refine below_set ?_ GE137.out) | exact HB.out)))); (case aL => have := LMc31.out; omega); intro v156 w36 ho hb hg hat; rw [← Ny155.out] at ho; have n0_ := Aside0.mk (Kd.R_over' (by (with_reducible repeat (first | apply Kd.R_alloc | apply Kd.R_drewN | apply Kd.R_drew)); exact HO_7.out) (Kd.R_typed (by (with_reducible repeat (first | apply Kd.R_alloc | apply Kd.R_drewN | apply Kd.R_drew)); exact HO_9.out)) (by decide) hg); have n1_ := Aside0.mk (Kd.R_over' (by (with_reducible repeat (first | apply Kd.R_alloc | apply Kd.R_drewN | apply Kd.R_drew)); exact HO_8.out) (Kd.R_typed (by (with_reducible repeat (first | apply Kd.R_alloc | apply Kd.R_drewN | apply Kd.R_drew)); exact HO_9.out)) (by decide) hg); have n2_ := Aside0.mk (blk_grown (g := gb137) (o := .cells #[.bool a1_0, .bool a1_1] 36 (0, 0)) (by (with_reducible repeat (first | refine blk_drewN ?_ _ | refine blk_drew ?_ | refine blk_alloc ?_ _)); exact BK137.out) hg (Kd.R_ne HO_9.out BK137.out (by decide))); have n3_ := Aside0.mk (hb); have n4_ := Aside0.mk (ho); clear HO_7; clear HO_8; clear BK137; clear HB; clear HO_9; have HO_7 := n0_; have HO_8 := n1_; have BK137 := n2_; have HB := n3_; have HO157 := n4_; clear n0_ n1_ n2_ n3_ n4_; clear ho hb hg hat))
                 go_roundg k2
                 case measure => have := HJ3.out; have := HK2.out; omega
                 case rel => exact ⟨(y152), (y155), (wrap64 (x10_2 + 1)), (by first | rfl | (simp; done) | (simp [*]; done)), H', ⟨by have := HJ3.out; have := HK2.out; omega⟩, ⟨by (with_reducible repeat (first | apply Kd.R_alloc | apply Kd.R_drewN | apply Kd.R_drew)); exact HO_7.out⟩, ⟨by (with_reducible repeat (first | apply Kd.R_alloc | apply Kd.R_drewN | apply Kd.R_drew)); exact HO_8.out⟩, ⟨by (with_reducible repeat (first | apply Kd.R_alloc | apply Kd.R_drewN | apply Kd.R_drew)); exact HO157.out⟩, ⟨by (with_reducible repeat (first | refine blk_drewN ?_ _ | refine blk_drew ?_ | refine blk_alloc ?_ _)); exact BK137.out⟩, ⟨by repeat (first | (with_reducible first | exact HB.out | apply below_alloc | apply pw_below_drewN | apply below_drew1 | refine below_set ?_ GE137.out) | exact HB.out)⟩⟩
                ·rw [if_neg c31] at H
                 exact absurd H (by simp)
               ·rw [if_neg c30] at H
                exact absurd H (by simp)
             ·rw [if_neg c26] at H
              exact absurd H (by simp)
            ·rw [if_neg c25] at H
             exact absurd H (by simp)
         ·rw [if_neg c22] at H
          exact absurd H (by simp)
        ·rw [if_neg c21] at H
         have c21b0 : decide (x10_2 < (t141.length : Int)) = false := decide_eq_false c21
         clear c21
         replace H := Option.bind_eq_some_iff.mp H
         obtain ⟨t158, A370, H⟩ := H
         replace H : (domesdaylaw10_OrderPlaces.l1 k2 l2 t141 t158 0) = some r := H
         have A37 := Aside0.mk A370
         clear A370
         have H' := Aside0.mk H
         clear H
         obtain ⟨Ao38, co38, eo38⟩ := Kd.R_slice HO_7.out
         subst eo38
         have hcz39_0 : wr.cell? ⟨gb137, 0, none⟩ = some (.bool a1_0) := (blk_cell BK137.out 0).trans rfl; have hcz39_1 : wr.cell? ⟨gb137, 1, none⟩ = some (.bool a1_1) := (blk_cell BK137.out 1).trans rfl; have hfz39_0 := blk_frozen BK137.out 0; have hfz39_1 := blk_frozen BK137.out 1
         obtain ⟨Ao40, co40, eo40⟩ := Kd.R_slice HO_9.out
         subst eo40
         go_wp2_with (first | ((with_reducible refine gate_callee (f := 16) rfl ?_); refine goesL_ (some 82) rfl rfl Tryd.func16 (by kernel_rfl) rfl #[.int .i64 a0, .bool a1_0, .bool a1_1, .slice Ao40 x9_2.length co40] rfl (by (try simp only [List.map_toArray, List.map_cons, List.map_nil]); first | done | rfl | (simp only [List.length_drop, List.length_take]; rfl)) ?_; (with_reducible refine (order_Sort.calls k2 a0 a1_0 a1_1 _ _ x9_2 t158 _ ?side1 ?side2 A37.out).mono ?_); (case side1 => repeat (first | exact (Kd.R_reads' HO_9.out).2.2 | (with_reducible refine Kd.C_alloc ?_ _) | (with_reducible refine Kd.C_drewN ?_ _) | (with_reducible refine Kd.C_drew ?_))); (case side2 => exact (Kd.R_reads' HO_9.out).2.1); rintro e w41 ⟨v159, rfl, ho0, hb⟩; refine ⟨_, rfl, ?_⟩; have n0_ := Aside0.mk (Kd.R_elder' (by (with_reducible repeat (first | apply Kd.R_alloc | apply Kd.R_drewN | apply Kd.R_drew)); exact HO_7.out) (Kd.R_base ho0) hb); have n1_ := Aside0.mk (Kd.R_below (by (with_reducible repeat (first | apply Kd.R_alloc | apply Kd.R_drewN | apply Kd.R_drew)); exact HO_8.out) hb); have n2_ := Aside0.mk (Kd.R_below (by (with_reducible repeat (first | apply Kd.R_alloc | apply Kd.R_drewN | apply Kd.R_drew)); exact HO_9.out) hb); have n3_ := Aside0.mk (Kd.R_lower (Kd.R_new' ho0 (Kd.R_lt (by (with_reducible repeat (first | apply Kd.R_alloc | apply Kd.R_drewN | apply Kd.R_drew)); exact HO_7.out))) (below_size (by repeat (first | (with_reducible first | exact HB.out | apply below_alloc | apply pw_below_drewN | apply below_drew1 | refine below_set ?_ GE137.out) | exact HB.out)))); have n4_ := Aside0.mk (blk_below (g := gb137) (o := .cells #[.bool a1_0, .bool a1_1] 36 (0, 0)) (by (with_reducible repeat (first | refine blk_drewN ?_ _ | refine blk_drew ?_ | refine blk_alloc ?_ _)); exact BK137.out) hb); have n5_ := Aside0.mk (below_step (by repeat (first | (with_reducible first | exact HB.out | apply below_alloc | apply pw_below_drewN | apply below_drew1 | refine below_set ?_ GE137.out) | exact HB.out)) hb); clear HO_7; clear HO_8; clear HO_9; clear BK137; clear HB; have HO_7 := n0_; have HO_8 := n1_; have HO_9 := n2_; have HO160 := n3_; have BK137 := n4_; have HB := n5_; clear n0_ n1_ n2_ n3_ n4_ n5_; (try clear hb); (try clear hb2); (try clear hk); (try clear hi); (try clear ho0)))
         go_loopg [12] k2 (fun kq v12 w' => ∃ (x12_3 : Int), v12 = .int .i64 x12_3 ∧ Aside0 (domesdaylaw10_OrderPlaces.l1 kq l2 t141 t158 x12_3 = some r) ∧ Aside0 (kq ≤ k2) ∧ Aside0 (Kd.R (Kd.int .i64) 3 w' w.heap.size (fun k_ => some k_ ≠ (v159 : Value).ownBlock) (.slice Ao38 t141.length co38) t141) ∧ Aside0 (Kd.R (Kd.int .i64) 3 w' w.heap.size (fun k_ => some k_ ≠ ((.slice Ao38 t141.length co38) : Value).ownBlock) v159 t158) ∧ Aside0 (w'.heap[gb137]? = some (.cells #[.bool a1_0, .bool a1_1] 36 (0, 0))) ∧ Aside0 (Below w.heap.size w w'))
         case atStart => exact ⟨(0), (by first | rfl | (simp; done) | (simp [*]; done)), H', ⟨Nat.le_refl _⟩, ⟨by (with_reducible repeat (first | apply Kd.R_alloc | apply Kd.R_drewN | apply Kd.R_drew)); exact Kd.R_mono HO_7.out (fun _ hk => hk.2)⟩, ⟨by (with_reducible repeat (first | apply Kd.R_alloc | apply Kd.R_drewN | apply Kd.R_drew)); exact Kd.R_mono HO160.out (fun _ hk => hk.2)⟩, ⟨by (with_reducible repeat (first | refine blk_drewN ?_ _ | refine blk_drew ?_ | refine blk_alloc ?_ _)); exact BK137.out⟩, ⟨by repeat (first | (with_reducible first | exact HB.out | apply below_alloc | apply pw_below_drewN | apply below_drew1 | refine below_set ?_ GE137.out) | exact HB.out)⟩⟩
         case round =>
          clear H'
          (try clear c1); (try clear p1); (try clear q1); (try clear hx1); (try clear c2); (try clear p2); (try clear q2); (try clear hx2); (try clear c3); (try clear p6); (try clear c7); (try clear c8); (try clear c11); (try clear p14); (try clear q14); (try clear hx14); (try clear c15); (try clear c15b0); (try clear c15b1); (try clear p15); (try clear q15); (try clear hx15); (try clear c16); (try clear c16b0); (try clear c16b1); (try clear c21); (try clear c21b0); (try clear c22); (try clear c22b0); (try clear c23); (try clear c23b0); (try clear c24); (try clear c24b0); (try clear c25); (try clear c25b0); (try clear c26); (try clear c26b0); (try clear q27); (try clear c28); (try clear p29); (try clear q29); (try clear hx29); (try clear hf29); (try clear c30); (try clear c30b0); (try clear c31); (try clear hcz17_0); (try clear hcz17_1); (try clear hcz39_0); (try clear hcz39_1); (try clear hfz17_0); (try clear hfz17_1); (try clear hfz39_0); (try clear hfz39_1); (try clear hx147_0); (try clear hx148_0); (try clear hx149_0); (try clear hx150_0); (try clear hx151_0); (try clear hx153_0); (try clear hx154_0); (try clear hx154_1); (try clear hx154_2); (try clear hx154_3); (try clear hx29_0); (try clear p147); (try clear p148); (try clear p149); (try clear p150); (try clear p151); (try clear p153); (try clear p154); (try clear p2); (try clear p29); (try clear q147); (try clear q148); (try clear q149); (try clear q150); (try clear q151); (try clear q153); (try clear q154); (try clear q29)
          obtain ⟨x12_3, rfl, HA, HK3, HO_7, HO_11, BK137, HB⟩ := hrel
          cases gk with
          | zero => exact absurd HA.out (by simp [domesdaylaw10_OrderPlaces.l1])
          | succ k3 =>
           have H := HA.out
           clear HA
           simp only [domesdaylaw10_OrderPlaces.l1] at H
           by_cases c42 : x12_3 < (t158.length : Int)
           ·rw [if_pos c42] at H
            have c42b0 : decide (x12_3 < (t158.length : Int)) = true := decide_eq_true c42
            clear c42
            by_cases c43 : 0 ≤ x12_3
            ·rw [if_pos c43] at H
             have c43b0 : decide (0 ≤ x12_3) = true := decide_eq_true c43
             clear c43
             by_cases c44 : (rd t158 x12_3) = x12_3
             ·rw [if_pos c44] at H
              have c44b0 : ((rd t158 x12_3) == x12_3) = true := beq_iff_eq.mpr c44
              have c44b1 : ((rd t158 x12_3) != x12_3) = false := bne_eq_false_iff_eq.mpr c44
              clear c44
              have H' := Aside0.mk H
              clear H
              obtain ⟨Ao45, co45, eo45⟩ := Kd.R_slice HO_11.out
              subst eo45
              have p161 : 0 ≤ (x12_3 : Int) := of_decide_eq_true (by first | (with_reducible assumption) | assumption)
              have q161 : x12_3 < (t158.length : Int) := of_decide_eq_true (by first | (with_reducible assumption) | assumption)
              obtain ⟨ad161, e161, hx161_0⟩ := Kd.at_int (Kd.R_reads' HO_11.out).2.2 x12_3 p161 q161
              cases e161
              replace p161 := eq_true p161
              replace q161 := eq_true q161
              go_wp2
              go_roundg k3
              case measure => have := HJ3.out; have := HK2.out; have := HK3.out; omega
              case rel => exact ⟨(wrap64 (x12_3 + 1)), (by first | rfl | (simp; done) | (simp [*]; done)), H', ⟨by have := HJ3.out; have := HK2.out; have := HK3.out; omega⟩, ⟨by (with_reducible repeat (first | apply Kd.R_alloc | apply Kd.R_drewN | apply Kd.R_drew)); exact HO_7.out⟩, ⟨by (with_reducible repeat (first | apply Kd.R_alloc | apply Kd.R_drewN | apply Kd.R_drew)); exact HO_11.out⟩, ⟨by (with_reducible repeat (first | refine blk_drewN ?_ _ | refine blk_drew ?_ | refine blk_alloc ?_ _)); exact BK137.out⟩, ⟨by repeat (first | (with_reducible first | exact HB.out | apply below_alloc | apply pw_below_drewN | apply below_drew1 | refine below_set ?_ GE137.out) | exact HB.out)⟩⟩
             ·rw [if_neg c44] at H
              exact absurd H (by simp)
            ·rw [if_neg c43] at H
             exact absurd H (by simp)
           ·rw [if_neg c42] at H
            have c42b0 : decide (x12_3 < (t158.length : Int)) = false := decide_eq_false c42
            clear c42
            by_cases c46 : (t141.length : Int) = (l2.length : Int)
            ·rw [if_pos c46] at H
             have c46b0 : ((t141.length : Int) == (l2.length : Int)) = true := beq_iff_eq.mpr c46
             have c46b1 : ((t141.length : Int) != (l2.length : Int)) = false := bne_eq_false_iff_eq.mpr c46
             have c46b2 : (t141.length == l2.length) = true := by first | simpa using c46 | (simp at c46 ⊢; omega)
             clear c46
             obtain rfl := Option.some.inj H
             obtain ⟨Ao47, co47, eo47⟩ := Kd.R_slice HO_11.out
             subst eo47
             go_wp2
             go_ret
             exact ⟨by first | rfl | (simp [errW_none, errW_some] <;> rfl) | (simp [*, errW_none, errW_some] <;> rfl), by repeat (first | (with_reducible first | exact HB.out | apply below_alloc | apply pw_below_drewN | apply below_drew1 | refine below_set ?_ GE137.out) | exact HB.out)⟩
            ·rw [if_neg c46] at H
             exact absurd H (by simp)
     ·rw [if_neg c16] at H
      exact absurd H (by simp)
    ·rw [if_neg c15] at H
     exact absurd H (by simp)
end Go.Proofs.YtnlbjefhbeocmaaDoor.QOrderCompares
