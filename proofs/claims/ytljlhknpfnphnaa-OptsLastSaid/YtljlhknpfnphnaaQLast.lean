-- Made by a program of this session.
import Derived.Test.YtljlhknpfnphnaaQA
import Derived.Test.YtljlhknpfnphnaaXLast
namespace Go.Proofs.Ytljlhknpfnphnaa.QOpts
open Go.RowKit Go.Proofs.YtljlhknpfnphnaaW.PrintWords Go.Proofs.YtljlhknpfnphnaaW.PrintLast Go.Proofs.YtljlhknpfnphnaaW.PrintMore
attribute [local go_sem] max2_int min2_int max_two min_two max_three min_three max_four min_four   -- for this text's walks alone
set_option linter.unusedVariables false
set_option linter.unusedSimpArgs false
attribute [local go_sem high] eqA36

/-! ### domesdaylaw13_OptsLast: function 6 -/
mutual
def domesdaylaw13_OptsLast.j0 : Nat → List (S36) → ByteArray → Bool → Option (Bool)
  | 0, _, _, _ => none
  | k + 1, x0, x1, x22 => if x22 = true then ((domesdaylaw13_awake.f k).bind fun t116 => (some t116)) else (domesdaylaw13_OptsLast.l0 k x0 x1 false 0 0 (⟨#[]⟩ : ByteArray))
def domesdaylaw13_OptsLast.l0 : Nat → List (S36) → ByteArray → Bool → Int → Int → ByteArray → Option (Bool)
  | 0, _, _, _, _, _, _ => none
  | k + 1, x0, x1, x6, x7, x118000, x118001 => if x7 < (x0.length : Int) then (domesdaylaw13_OptsLast.l1 k x0 x1 x6 x7 0 x118000 x118001) else ((opts_Last.f k x0 x1).bind fun bt120 => (if (x1.size : Int) = 1 then (if 0 < (x1.size : Int) then ((opts_Has.f k x0 (bt x1 0)).bind fun t124 => (if (t124 != x6) = true then (none) else (if (bt120.1 == x118000 && (bt120.2.1.toList == x118001.toList)) = true then (some (bt120.2.2 == x6)) else (none)))) else (none)) else (if (bt120.1 == x118000 && (bt120.2.1.toList == x118001.toList)) = true then (some (bt120.2.2 == x6)) else (none))))
def domesdaylaw13_OptsLast.l1 : Nat → List (S36) → ByteArray → Bool → Int → Int → Int → ByteArray → Option (Bool)
  | 0, _, _, _, _, _, _, _ => none
  | k + 1, x0, x1, x6, x7, x8, x118000, x118001 => if x8 < (x1.size : Int) then (if 0 ≤ x7 then (if x7 < (x0.length : Int) then (if 0 ≤ x8 then (if ((rd_T36 x0 x7).f0) = (bt x1 x8) then (domesdaylaw13_OptsLast.l1 k x0 x1 true x7 (wrap64 (x8 + 1)) ((rd_T36 x0 x7).f0) ((rd_T36 x0 x7).f1)) else (domesdaylaw13_OptsLast.l1 k x0 x1 x6 x7 (wrap64 (x8 + 1)) x118000 x118001)) else (none)) else (none)) else (none)) else (domesdaylaw13_OptsLast.l0 k x0 x1 x6 (wrap64 (x7 + 1)) x118000 x118001)
end
def domesdaylaw13_OptsLast.f (k : Nat) (l0 : List (S36)) (a1 : ByteArray) : Option (Bool) := (domesdaylaw13_awake.f k).bind fun t115 => (if t115 = true then (if (l0.length : Int) > 60 then (domesdaylaw13_OptsLast.j0 k l0 a1 true) else (domesdaylaw13_OptsLast.j0 k l0 a1 (decide ((a1.size : Int) > 60)))) else (domesdaylaw13_OptsLast.j0 k l0 a1 true))
theorem domesdaylaw13_OptsLast.mono_l : ∀ k, (∀ y0 y1 y2, LeO (domesdaylaw13_OptsLast.j0 k y0 y1 y2) (domesdaylaw13_OptsLast.j0 (k + 1) y0 y1 y2)) ∧ (∀ y0 y1 y2 y3 y4 y5, LeO (domesdaylaw13_OptsLast.l0 k y0 y1 y2 y3 y4 y5) (domesdaylaw13_OptsLast.l0 (k + 1) y0 y1 y2 y3 y4 y5)) ∧ (∀ y0 y1 y2 y3 y4 y5 y6, LeO (domesdaylaw13_OptsLast.l1 k y0 y1 y2 y3 y4 y5 y6) (domesdaylaw13_OptsLast.l1 (k + 1) y0 y1 y2 y3 y4 y5 y6))
  | 0 => ⟨fun _ _ _ r h => by simp [domesdaylaw13_OptsLast.j0] at h, fun _ _ _ _ _ _ r h => by simp [domesdaylaw13_OptsLast.l0] at h, fun _ _ _ _ _ _ _ r h => by simp [domesdaylaw13_OptsLast.l1] at h⟩
  | k + 1 => by
    obtain ⟨ih0, ih1, ih2⟩ := domesdaylaw13_OptsLast.mono_l k
    refine ⟨?_, ?_, ?_⟩
    · intro y0 y1 y2
      unfold domesdaylaw13_OptsLast.j0
      repeat' first
      | (with_reducible exact ih0 _ _ _)
      | (with_reducible exact ih1 _ _ _ _ _ _)
      | (with_reducible exact ih2 _ _ _ _ _ _ _)
      | (with_reducible exact domesdaylaw13_awake.mono _)
      | (with_reducible exact opts_Has.mono _ _ _)
      | (with_reducible exact opts_Last.mono _ _ _)
      | (with_reducible exact LeO.refl _)
      | (with_reducible exact LeO.none _)
      | (with_reducible refine LeO.ite ?_ ?_)
      | (with_reducible refine LeO.bind ?_ (fun _ => ?_))
      | exact ih0 _ _ _
      | exact ih1 _ _ _ _ _ _
      | exact ih2 _ _ _ _ _ _ _
      | exact domesdaylaw13_awake.mono _
      | exact opts_Has.mono _ _ _
      | exact opts_Last.mono _ _ _
      | exact LeO.none _
      | refine LeO.ite ?_ ?_
      | refine LeO.bind ?_ (fun _ => ?_)
    · intro y0 y1 y2 y3 y4 y5
      unfold domesdaylaw13_OptsLast.l0
      repeat' first
      | (with_reducible exact ih0 _ _ _)
      | (with_reducible exact ih1 _ _ _ _ _ _)
      | (with_reducible exact ih2 _ _ _ _ _ _ _)
      | (with_reducible exact domesdaylaw13_awake.mono _)
      | (with_reducible exact opts_Has.mono _ _ _)
      | (with_reducible exact opts_Last.mono _ _ _)
      | (with_reducible exact LeO.refl _)
      | (with_reducible exact LeO.none _)
      | (with_reducible refine LeO.ite ?_ ?_)
      | (with_reducible refine LeO.bind ?_ (fun _ => ?_))
      | exact ih0 _ _ _
      | exact ih1 _ _ _ _ _ _
      | exact ih2 _ _ _ _ _ _ _
      | exact domesdaylaw13_awake.mono _
      | exact opts_Has.mono _ _ _
      | exact opts_Last.mono _ _ _
      | exact LeO.none _
      | refine LeO.ite ?_ ?_
      | refine LeO.bind ?_ (fun _ => ?_)
    · intro y0 y1 y2 y3 y4 y5 y6
      unfold domesdaylaw13_OptsLast.l1
      repeat' first
      | (with_reducible exact ih0 _ _ _)
      | (with_reducible exact ih1 _ _ _ _ _ _)
      | (with_reducible exact ih2 _ _ _ _ _ _ _)
      | (with_reducible exact domesdaylaw13_awake.mono _)
      | (with_reducible exact opts_Has.mono _ _ _)
      | (with_reducible exact opts_Last.mono _ _ _)
      | (with_reducible exact LeO.refl _)
      | (with_reducible exact LeO.none _)
      | (with_reducible refine LeO.ite ?_ ?_)
      | (with_reducible refine LeO.bind ?_ (fun _ => ?_))
      | exact ih0 _ _ _
      | exact ih1 _ _ _ _ _ _
      | exact ih2 _ _ _ _ _ _ _
      | exact domesdaylaw13_awake.mono _
      | exact opts_Has.mono _ _ _
      | exact opts_Last.mono _ _ _
      | exact LeO.none _
      | refine LeO.ite ?_ ?_
      | refine LeO.bind ?_ (fun _ => ?_)
theorem domesdaylaw13_OptsLast.mono : ∀ a0 a1 k, LeO (domesdaylaw13_OptsLast.f k a0 a1) (domesdaylaw13_OptsLast.f (k + 1) a0 a1) := by
  intro a0 a1 k
  obtain ⟨ih0, ih1, ih2⟩ := domesdaylaw13_OptsLast.mono_l k
  unfold domesdaylaw13_OptsLast.f
  repeat' first
      | (with_reducible exact ih0 _ _ _)
      | (with_reducible exact ih1 _ _ _ _ _ _)
      | (with_reducible exact ih2 _ _ _ _ _ _ _)
      | (with_reducible exact domesdaylaw13_awake.mono _)
      | (with_reducible exact opts_Has.mono _ _ _)
      | (with_reducible exact opts_Last.mono _ _ _)
      | (with_reducible exact LeO.refl _)
      | (with_reducible exact LeO.none _)
      | (with_reducible refine LeO.ite ?_ ?_)
      | (with_reducible refine LeO.bind ?_ (fun _ => ?_))
      | exact ih0 _ _ _
      | exact ih1 _ _ _ _ _ _
      | exact ih2 _ _ _ _ _ _ _
      | exact domesdaylaw13_awake.mono _
      | exact opts_Has.mono _ _ _
      | exact opts_Last.mono _ _ _
      | exact LeO.none _
      | refine LeO.ite ?_ ?_
      | refine LeO.bind ?_ (fun _ => ?_)
set_option maxHeartbeats 8000000 in
set_option maxRecDepth 100000 in
theorem domesdaylaw13_OptsLast.calls (k : Nat) (A0 : Option Addr) (c0 : Nat) (l0 : List (S36)) (a1 : ByteArray) (r : Bool) (w : World) (hr0 : Kd.C k36 w A0 l0.length l0) (hc0 : l0.length ≤ c0) (h : domesdaylaw13_OptsLast.f k l0 a1 = some r) :
    Calls Try.prog 6 #[.slice A0 l0.length c0, .string a1] w fun e w' => e = .returned (.bool r) ∧ Below w.heap.size w w' := by
  have hu36 := Try.underlying36
  have HR0 := Aside0.mk hr0
  have HC0 := Aside0.mk hc0
  clear hr0 hc0
  have HB := Aside0.mk (Below.refl w.heap.size w)
  have H : ((domesdaylaw13_awake.f k).bind fun t115 => (if t115 = true then (if (l0.length : Int) > 60 then (domesdaylaw13_OptsLast.j0 k l0 a1 true) else (domesdaylaw13_OptsLast.j0 k l0 a1 (decide ((a1.size : Int) > 60)))) else (domesdaylaw13_OptsLast.j0 k l0 a1 true))) = some r := h
  clear h
  have HC3 := Aside0.mk H
  clear H
  go_enter Try.func6, Try.ntmps6
  go_upto_region 1 with (fail)
  repeat (go_quiet (fail); go_upto_region 1 with (fail))
  go_cut [22] (fun v22 wc => ∃ (kq : Nat) (x22_2 : Bool), v22 = .bool x22_2 ∧ Aside0 (domesdaylaw13_OptsLast.j0 kq l0 a1 x22_2 = some r) ∧ Aside0 (kq ≤ k) ∧ Aside0 (Below w.heap.size w wc))
  case first =>
    have H := HC3.out
    clear HC3
    replace H := Option.bind_eq_some_iff.mp H
    obtain ⟨t115, A40, H⟩ := H
    replace H : (if t115 = true then (if (l0.length : Int) > 60 then (domesdaylaw13_OptsLast.j0 k l0 a1 true) else (domesdaylaw13_OptsLast.j0 k l0 a1 (decide ((a1.size : Int) > 60)))) else (domesdaylaw13_OptsLast.j0 k l0 a1 true)) = some r := H
    have A4 := Aside0.mk A40
    clear A40
    by_cases c5 : t115 = true
    · subst c5
      have H1 : (if (l0.length : Int) > 60 then (domesdaylaw13_OptsLast.j0 k l0 a1 true) else (domesdaylaw13_OptsLast.j0 k l0 a1 (decide ((a1.size : Int) > 60)))) = some r := by rw [if_pos rfl] at H; exact H
      clear H
      have H := H1
      clear H1
      by_cases c6 : (l0.length : Int) > 60
      · rw [if_pos c6] at H
        have c6b0 : decide (60 < (l0.length : Int)) = true := decide_eq_true c6
        have c6b1 : decide (60 < l0.length) = true := decide_eq_true (by omega)
        clear c6
        (first | rw [c6b0] | (simp only [i64_w, i32_w]; rw [c6b0]) | skip)
        have H' := Aside0.mk H
        clear H
        go_wp2_with (first | (go_at_call 7; (with_reducible refine (domesdaylaw13_awake.calls k  true _ A4.out).mono ?_); rintro e w7 ⟨rfl, hb⟩; have n0_ := Aside0.mk (below_step (by repeat (first | (with_reducible first | exact HB.out | apply below_alloc | apply pw_below_drewN | apply below_drew1) | exact HB.out)) hb); clear HB; have HB := n0_; clear n0_; (try clear hb); (try clear hb2); (try clear hk); (try clear hi)))
        repeat (go_quiet (first | (go_at_call 7; (with_reducible refine (domesdaylaw13_awake.calls k  true _ A4.out).mono ?_); rintro e w7 ⟨rfl, hb⟩; have n0_ := Aside0.mk (below_step (by repeat (first | (with_reducible first | exact HB.out | apply below_alloc | apply pw_below_drewN | apply below_drew1) | exact HB.out)) hb); clear HB; have HB := n0_; clear n0_; (try clear hb); (try clear hb2); (try clear hk); (try clear hi))); try go_wp2_with (first | (go_at_call 7; (with_reducible refine (domesdaylaw13_awake.calls k  true _ A4.out).mono ?_); rintro e w7 ⟨rfl, hb⟩; have n0_ := Aside0.mk (below_step (by repeat (first | (with_reducible first | exact HB.out | apply below_alloc | apply pw_below_drewN | apply below_drew1) | exact HB.out)) hb); clear HB; have HB := n0_; clear n0_; (try clear hb); (try clear hb2); (try clear hk); (try clear hi))))
        go_meet
        case rel => exact ⟨_, (true), (by first | rfl | (simp; done) | (simp [*]; done)), H', ⟨by first | omega | exact Nat.le_refl _⟩, ⟨by repeat (first | (with_reducible first | exact HB.out | apply below_alloc | apply pw_below_drewN | apply below_drew1) | exact HB.out)⟩⟩
      · rw [if_neg c6] at H
        have c6b0 : decide (60 < (l0.length : Int)) = false := decide_eq_false c6
        have c6b1 : decide (60 < l0.length) = false := decide_eq_false (by omega)
        clear c6
        (first | rw [c6b0] | (simp only [i64_w, i32_w]; rw [c6b0]) | skip)
        have H' := Aside0.mk H
        clear H
        go_wp2_with (first | (go_at_call 7; (with_reducible refine (domesdaylaw13_awake.calls k  true _ A4.out).mono ?_); rintro e w8 ⟨rfl, hb⟩; have n0_ := Aside0.mk (below_step (by repeat (first | (with_reducible first | exact HB.out | apply below_alloc | apply pw_below_drewN | apply below_drew1) | exact HB.out)) hb); clear HB; have HB := n0_; clear n0_; (try clear hb); (try clear hb2); (try clear hk); (try clear hi)))
        repeat (go_quiet (first | (go_at_call 7; (with_reducible refine (domesdaylaw13_awake.calls k  true _ A4.out).mono ?_); rintro e w8 ⟨rfl, hb⟩; have n0_ := Aside0.mk (below_step (by repeat (first | (with_reducible first | exact HB.out | apply below_alloc | apply pw_below_drewN | apply below_drew1) | exact HB.out)) hb); clear HB; have HB := n0_; clear n0_; (try clear hb); (try clear hb2); (try clear hk); (try clear hi))); try go_wp2_with (first | (go_at_call 7; (with_reducible refine (domesdaylaw13_awake.calls k  true _ A4.out).mono ?_); rintro e w8 ⟨rfl, hb⟩; have n0_ := Aside0.mk (below_step (by repeat (first | (with_reducible first | exact HB.out | apply below_alloc | apply pw_below_drewN | apply below_drew1) | exact HB.out)) hb); clear HB; have HB := n0_; clear n0_; (try clear hb); (try clear hb2); (try clear hk); (try clear hi))))
        go_meet
        case rel => exact ⟨_, (decide ((a1.size : Int) > 60)), (by first | rfl | (simp; done) | (simp [*]; done)), H', ⟨by first | omega | exact Nat.le_refl _⟩, ⟨by repeat (first | (with_reducible first | exact HB.out | apply below_alloc | apply pw_below_drewN | apply below_drew1) | exact HB.out)⟩⟩
    · replace c5 := Bool.eq_false_iff.mpr c5
      subst c5
      have H1 : (domesdaylaw13_OptsLast.j0 k l0 a1 true) = some r := by rw [if_neg (show ¬ (false = true) by decide)] at H; exact H
      clear H
      have H := H1
      clear H1
      have H' := Aside0.mk H
      clear H
      go_wp2_with (first | (go_at_call 7; (with_reducible refine (domesdaylaw13_awake.calls k  false _ A4.out).mono ?_); rintro e w9 ⟨rfl, hb⟩; have n0_ := Aside0.mk (below_step (by repeat (first | (with_reducible first | exact HB.out | apply below_alloc | apply pw_below_drewN | apply below_drew1) | exact HB.out)) hb); clear HB; have HB := n0_; clear n0_; (try clear hb); (try clear hb2); (try clear hk); (try clear hi)))
      repeat (go_quiet (first | (go_at_call 7; (with_reducible refine (domesdaylaw13_awake.calls k  false _ A4.out).mono ?_); rintro e w9 ⟨rfl, hb⟩; have n0_ := Aside0.mk (below_step (by repeat (first | (with_reducible first | exact HB.out | apply below_alloc | apply pw_below_drewN | apply below_drew1) | exact HB.out)) hb); clear HB; have HB := n0_; clear n0_; (try clear hb); (try clear hb2); (try clear hk); (try clear hi))); try go_wp2_with (first | (go_at_call 7; (with_reducible refine (domesdaylaw13_awake.calls k  false _ A4.out).mono ?_); rintro e w9 ⟨rfl, hb⟩; have n0_ := Aside0.mk (below_step (by repeat (first | (with_reducible first | exact HB.out | apply below_alloc | apply pw_below_drewN | apply below_drew1) | exact HB.out)) hb); clear HB; have HB := n0_; clear n0_; (try clear hb); (try clear hb2); (try clear hk); (try clear hi))))
      go_meet
      case rel => exact ⟨_, (true), (by first | rfl | (simp; done) | (simp [*]; done)), H', ⟨by first | omega | exact Nat.le_refl _⟩, ⟨by repeat (first | (with_reducible first | exact HB.out | apply below_alloc | apply pw_below_drewN | apply below_drew1) | exact HB.out)⟩⟩
  case rest =>
    clear HC3
    try clear p2
    try clear c5
    try clear c6
    try clear c6b0
    try clear c6b1
    obtain ⟨kq, x22_2, rfl, HA, HJ2, HB⟩ := hcut
    cases kq with
    | zero => exact absurd HA.out (by simp [domesdaylaw13_OptsLast.j0])
    | succ kj2 =>
      have H := HA.out
      clear HA
      simp only [domesdaylaw13_OptsLast.j0] at H
      by_cases c10 : x22_2 = true
      · subst c10
        have H1 : ((domesdaylaw13_awake.f kj2).bind fun t116 => (some t116)) = some r := by rw [if_pos rfl] at H; exact H
        clear H
        have H := H1
        clear H1
        replace H := Option.bind_eq_some_iff.mp H
        obtain ⟨t116, A110, H⟩ := H
        replace H : (some t116) = some r := H
        have A11 := Aside0.mk A110
        clear A110
        obtain rfl := Option.some.inj H
        go_wp2_with (first | (go_at_call 7; (with_reducible refine (domesdaylaw13_awake.calls kj2  t116 _ A11.out).mono ?_); rintro e w12 ⟨rfl, hb⟩; have n0_ := Aside0.mk (below_step (by repeat (first | (with_reducible first | exact HB.out | apply below_alloc | apply pw_below_drewN | apply below_drew1) | exact HB.out)) hb); clear HB; have HB := n0_; clear n0_; (try clear hb); (try clear hb2); (try clear hk); (try clear hi)))
        repeat (go_quiet (first | (go_at_call 7; (with_reducible refine (domesdaylaw13_awake.calls kj2  t116 _ A11.out).mono ?_); rintro e w12 ⟨rfl, hb⟩; have n0_ := Aside0.mk (below_step (by repeat (first | (with_reducible first | exact HB.out | apply below_alloc | apply pw_below_drewN | apply below_drew1) | exact HB.out)) hb); clear HB; have HB := n0_; clear n0_; (try clear hb); (try clear hb2); (try clear hk); (try clear hi))); try go_wp2_with (first | (go_at_call 7; (with_reducible refine (domesdaylaw13_awake.calls kj2  t116 _ A11.out).mono ?_); rintro e w12 ⟨rfl, hb⟩; have n0_ := Aside0.mk (below_step (by repeat (first | (with_reducible first | exact HB.out | apply below_alloc | apply pw_below_drewN | apply below_drew1) | exact HB.out)) hb); clear HB; have HB := n0_; clear n0_; (try clear hb); (try clear hb2); (try clear hk); (try clear hi))))
        go_ret
        exact ⟨by first | rfl | (simp [errW_none, errW_some] <;> rfl) | (simp [*, errW_none, errW_some] <;> rfl), by repeat (first | (with_reducible first | exact HB.out | apply below_alloc | apply pw_below_drewN | apply below_drew1) | exact HB.out)⟩
      · replace c10 := Bool.eq_false_iff.mpr c10
        subst c10
        have H1 : (domesdaylaw13_OptsLast.l0 kj2 l0 a1 false 0 0 (⟨#[]⟩ : ByteArray)) = some r := by rw [if_neg (show ¬ (false = true) by decide)] at H; exact H
        clear H
        have H := H1
        clear H1
        have H' := Aside0.mk H
        clear H
        go_wp2_with (first | ((with_reducible refine gate_dst (N := 5) rfl ?_); (try (refine gate_guard (by rfl) ?_; dsimp only)); refine box_event ?hg (N := 5) ?hd (cs := #[.int .u8 0, .string (⟨#[]⟩ : ByteArray)]) (t := 36) ?hr ?_; (case hd => rfl); (case hg => rfl); (case hr => first | (go_simp; done) | (go_simp; rfl)); intro gb117 hg w13 hbox hb; have n0_ := Aside0.mk (below_step (by repeat (first | (with_reducible first | exact HB.out | apply below_alloc | apply pw_below_drewN | apply below_drew1) | exact HB.out)) hb); have n1_ := Aside0.mk (hbox); have n2_ := Aside0.mk ((by rw [hg]; exact (below_size (by repeat (first | (with_reducible first | exact HB.out | apply below_alloc | apply pw_below_drewN | apply below_drew1) | exact HB.out))) : w.heap.size ≤ gb117)); have n3_ := Aside0.mk ((by rw [hg]; exact (below_size (by repeat (first | (with_reducible first | exact HB.out | apply below_alloc | apply pw_below_drewN | apply below_drew1) | exact HB.out))) : w.heap.size ≤ gb117)); clear HB; have HB := n0_; have BK117 := n1_; have GW117 := n2_; have GE117 := n3_; clear n0_ n1_ n2_ n3_; clear hb hbox hg; have hcz14_0 : w13.cell? ⟨gb117, 0, none⟩ = some (.int .u8 0) := (blk_cell BK117.out 0).trans rfl; have hcz14_1 : w13.cell? ⟨gb117, 1, none⟩ = some (.string (⟨#[]⟩ : ByteArray)) := (blk_cell BK117.out 1).trans rfl; have hfz14_0 := blk_frozen BK117.out 0; have hfz14_1 := blk_frozen BK117.out 1))
        repeat (go_quiet (first | ((with_reducible refine gate_dst (N := 5) rfl ?_); (try (refine gate_guard (by rfl) ?_; dsimp only)); refine box_event ?hg (N := 5) ?hd (cs := #[.int .u8 0, .string (⟨#[]⟩ : ByteArray)]) (t := 36) ?hr ?_; (case hd => rfl); (case hg => rfl); (case hr => first | (go_simp; done) | (go_simp; rfl)); intro gb117 hg w13 hbox hb; have n0_ := Aside0.mk (below_step (by repeat (first | (with_reducible first | exact HB.out | apply below_alloc | apply pw_below_drewN | apply below_drew1) | exact HB.out)) hb); have n1_ := Aside0.mk (hbox); have n2_ := Aside0.mk ((by rw [hg]; exact (below_size (by repeat (first | (with_reducible first | exact HB.out | apply below_alloc | apply pw_below_drewN | apply below_drew1) | exact HB.out))) : w.heap.size ≤ gb117)); have n3_ := Aside0.mk ((by rw [hg]; exact (below_size (by repeat (first | (with_reducible first | exact HB.out | apply below_alloc | apply pw_below_drewN | apply below_drew1) | exact HB.out))) : w.heap.size ≤ gb117)); clear HB; have HB := n0_; have BK117 := n1_; have GW117 := n2_; have GE117 := n3_; clear n0_ n1_ n2_ n3_; clear hb hbox hg; have hcz14_0 : w13.cell? ⟨gb117, 0, none⟩ = some (.int .u8 0) := (blk_cell BK117.out 0).trans rfl; have hcz14_1 : w13.cell? ⟨gb117, 1, none⟩ = some (.string (⟨#[]⟩ : ByteArray)) := (blk_cell BK117.out 1).trans rfl; have hfz14_0 := blk_frozen BK117.out 0; have hfz14_1 := blk_frozen BK117.out 1)); try go_wp2_with (first | ((with_reducible refine gate_dst (N := 5) rfl ?_); (try (refine gate_guard (by rfl) ?_; dsimp only)); refine box_event ?hg (N := 5) ?hd (cs := #[.int .u8 0, .string (⟨#[]⟩ : ByteArray)]) (t := 36) ?hr ?_; (case hd => rfl); (case hg => rfl); (case hr => first | (go_simp; done) | (go_simp; rfl)); intro gb117 hg w13 hbox hb; have n0_ := Aside0.mk (below_step (by repeat (first | (with_reducible first | exact HB.out | apply below_alloc | apply pw_below_drewN | apply below_drew1) | exact HB.out)) hb); have n1_ := Aside0.mk (hbox); have n2_ := Aside0.mk ((by rw [hg]; exact (below_size (by repeat (first | (with_reducible first | exact HB.out | apply below_alloc | apply pw_below_drewN | apply below_drew1) | exact HB.out))) : w.heap.size ≤ gb117)); have n3_ := Aside0.mk ((by rw [hg]; exact (below_size (by repeat (first | (with_reducible first | exact HB.out | apply below_alloc | apply pw_below_drewN | apply below_drew1) | exact HB.out))) : w.heap.size ≤ gb117)); clear HB; have HB := n0_; have BK117 := n1_; have GW117 := n2_; have GE117 := n3_; clear n0_ n1_ n2_ n3_; clear hb hbox hg; have hcz14_0 : w13.cell? ⟨gb117, 0, none⟩ = some (.int .u8 0) := (blk_cell BK117.out 0).trans rfl; have hcz14_1 : w13.cell? ⟨gb117, 1, none⟩ = some (.string (⟨#[]⟩ : ByteArray)) := (blk_cell BK117.out 1).trans rfl; have hfz14_0 := blk_frozen BK117.out 0; have hfz14_1 := blk_frozen BK117.out 1)))
        go_loopg [6, 7] kj2 (fun kq v6 v7 w' => ∃ (x6_2 : Bool) (x7_2 : Int) (x118000_2 : Int) (x118001_2 : ByteArray), v6 = .bool x6_2 ∧ v7 = .int .i64 x7_2 ∧ Aside0 (domesdaylaw13_OptsLast.l0 kq l0 a1 x6_2 x7_2 x118000_2 x118001_2 = some r) ∧ Aside0 (kq ≤ kj2) ∧ Aside0 (w'.heap[gb117]? = some (.cells #[.int .u8 x118000_2, .string x118001_2] 36 (0, 0))) ∧ Aside0 (Below w.heap.size w w'))
        case atStart => exact ⟨(false), (0), (0), ((⟨#[]⟩ : ByteArray)), (by first | rfl | (simp; done) | (simp [*]; done)), (by first | rfl | (simp; done) | (simp [*]; done)), H', ⟨Nat.le_refl _⟩, ⟨by (with_reducible repeat (first | refine blk_drewN ?_ _ | refine blk_drew ?_ | refine blk_alloc ?_ _)); refine blk_put (cs := #[.int .u8 0, .string (⟨#[]⟩ : ByteArray)]) ?_ 1 _ (by first | rfl | (simp; done)); (with_reducible repeat (first | refine blk_drewN ?_ _ | refine blk_drew ?_ | refine blk_alloc ?_ _)); refine blk_put (cs := #[.int .u8 0, .string (⟨#[]⟩ : ByteArray)]) ?_ 0 _ (by first | rfl | (simp; done)); (with_reducible repeat (first | refine blk_drewN ?_ _ | refine blk_drew ?_ | refine blk_alloc ?_ _)); exact BK117.out⟩, ⟨by repeat (first | (with_reducible first | exact HB.out | apply below_alloc | apply pw_below_drewN | apply below_drew1 | refine below_set ?_ GE117.out) | exact HB.out)⟩⟩
        case round =>
          clear H'
          try clear c1
          try clear p2
          try clear c5
          try clear c6
          try clear c6b0
          try clear c6b1
          try clear c10
          try clear hcz14_0
          try clear hcz14_1
          try clear hfz14_0
          try clear hfz14_1
          try clear p2
          obtain ⟨x6_2, x7_2, x118000_2, x118001_2, rfl, rfl, HA, HK2, BK117, HB⟩ := hrel
          cases gk with
          | zero => exact absurd HA.out (by simp [domesdaylaw13_OptsLast.l0])
          | succ k2 =>
            have H := HA.out
            clear HA
            simp only [domesdaylaw13_OptsLast.l0] at H
            by_cases c15 : x7_2 < (l0.length : Int)
            · rw [if_pos c15] at H
              have c15b0 : decide (x7_2 < (l0.length : Int)) = true := decide_eq_true c15
              clear c15
              have H' := Aside0.mk H
              clear H
              go_wp2
              repeat (go_quiet (fail); try go_wp2)
              go_loopg [6, 8] k2 (fun kq v6 v8 w' => ∃ (x6_3 : Bool) (x8_3 : Int) (x118000_3 : Int) (x118001_3 : ByteArray), v6 = .bool x6_3 ∧ v8 = .int .i64 x8_3 ∧ Aside0 (domesdaylaw13_OptsLast.l1 kq l0 a1 x6_3 x7_2 x8_3 x118000_3 x118001_3 = some r) ∧ Aside0 (kq ≤ k2) ∧ Aside0 (w'.heap[gb117]? = some (.cells #[.int .u8 x118000_3, .string x118001_3] 36 (0, 0))) ∧ Aside0 (Below w.heap.size w w'))
              case atStart => exact ⟨(x6_2), (0), (x118000_2), (x118001_2), (by first | rfl | (simp; done) | (simp [*]; done)), (by first | rfl | (simp; done) | (simp [*]; done)), H', ⟨Nat.le_refl _⟩, ⟨by (with_reducible repeat (first | refine blk_drewN ?_ _ | refine blk_drew ?_ | refine blk_alloc ?_ _)); exact BK117.out⟩, ⟨by repeat (first | (with_reducible first | exact HB.out | apply below_alloc | apply pw_below_drewN | apply below_drew1 | refine below_set ?_ GE117.out) | exact HB.out)⟩⟩
              case round =>
                clear H'
                try clear c1
                try clear p2
                try clear c5
                try clear c6
                try clear c6b0
                try clear c6b1
                try clear c10
                try clear c15
                try clear c15b0
                try clear hcz14_0
                try clear hcz14_1
                try clear hfz14_0
                try clear hfz14_1
                try clear p2
                obtain ⟨x6_3, x8_3, x118000_3, x118001_3, rfl, rfl, HA, HK3, BK117, HB⟩ := hrel
                cases gk with
                | zero => exact absurd HA.out (by simp [domesdaylaw13_OptsLast.l1])
                | succ k3 =>
                  have H := HA.out
                  clear HA
                  simp only [domesdaylaw13_OptsLast.l1] at H
                  by_cases c16 : x8_3 < (a1.size : Int)
                  · rw [if_pos c16] at H
                    have c16b0 : decide (x8_3 < (a1.size : Int)) = true := decide_eq_true c16
                    clear c16
                    by_cases c17 : 0 ≤ x7_2
                    · rw [if_pos c17] at H
                      have c17b0 : decide (0 ≤ x7_2) = true := decide_eq_true c17
                      clear c17
                      by_cases c18 : x7_2 < (l0.length : Int)
                      · rw [if_pos c18] at H
                        have c18b0 : decide (x7_2 < (l0.length : Int)) = true := decide_eq_true c18
                        clear c18
                        by_cases c19 : 0 ≤ x8_3
                        · rw [if_pos c19] at H
                          have c19b0 : decide (0 ≤ x8_3) = true := decide_eq_true c19
                          clear c19
                          by_cases c21 : ((rd_T36 l0 x7_2).f0) = (bt a1 x8_3)
                          · rw [if_pos c21] at H
                            have c21b0 : (((rd_T36 l0 x7_2).f0) == (bt a1 x8_3)) = true := beq_iff_eq.mpr c21
                            have c21b1 : (((rd_T36 l0 x7_2).f0) != (bt a1 x8_3)) = false := bne_eq_false_iff_eq.mpr c21
                            clear c21
                            have H' := Aside0.mk H
                            clear H
                            have p118 : 0 ≤ (x7_2 : Int) := of_decide_eq_true (by first | (with_reducible assumption) | assumption)
                            have q118 : x7_2 < (l0.length : Int) := of_decide_eq_true (by first | (with_reducible assumption) | assumption)
                            obtain ⟨ad118, e118, hx118_0, hx118_1⟩ := at_T36 HR0.out x7_2 p118 q118
                            cases e118
                            replace hx118_0 := (HB.out.cell (World.block_lt_of_cell? w _ hx118_0)).trans hx118_0
                            replace hx118_1 := (HB.out.cell (World.block_lt_of_cell? w _ hx118_1)).trans hx118_1
                            replace p118 := eq_true p118
                            replace q118 := eq_true q118
                            have p20 : 0 ≤ (x8_3 : Int) := of_decide_eq_true (by first | (with_reducible assumption) | assumption)
                            have q20 : x8_3 < (a1.size : Int) := of_decide_eq_true (by first | (with_reducible assumption) | assumption)
                            have hx20 := bt_at a1 x8_3
                            replace p20 := eq_true p20
                            replace q20 := eq_true q20
                            have p119 : 0 ≤ (x7_2 : Int) := of_decide_eq_true (by first | (with_reducible assumption) | assumption)
                            have q119 : x7_2 < (l0.length : Int) := of_decide_eq_true (by first | (with_reducible assumption) | assumption)
                            obtain ⟨ad119, e119, hx119_0, hx119_1⟩ := at_T36 HR0.out x7_2 p119 q119
                            obtain rfl : ad118 = ad119 := (by injection e119)
                            replace hx119_0 := (HB.out.cell (World.block_lt_of_cell? w _ hx119_0)).trans hx119_0
                            replace hx119_1 := (HB.out.cell (World.block_lt_of_cell? w _ hx119_1)).trans hx119_1
                            replace p119 := eq_true p119
                            replace q119 := eq_true q119
                            have hcz22_0 : wr.cell? ⟨gb117, 0, none⟩ = some (.int .u8 x118000_3) := (blk_cell BK117.out 0).trans rfl
                            have hcz22_1 : wr.cell? ⟨gb117, 1, none⟩ = some (.string x118001_3) := (blk_cell BK117.out 1).trans rfl
                            have hfz22_0 := blk_frozen BK117.out 0
                            have hfz22_1 := blk_frozen BK117.out 1
                            go_wp2
                            repeat (go_quiet (fail); try go_wp2)
                            go_roundg k3
                            case measure => have := HJ2.out; have := HK2.out; have := HK3.out; omega
                            case rel => exact ⟨(true), (wrap64 (x8_3 + 1)), ((rd_T36 l0 x7_2).f0), ((rd_T36 l0 x7_2).f1), (by first | rfl | (simp; done) | (simp [*]; done)), (by first | rfl | (simp; done) | (simp [*]; done)), H', ⟨by have := HJ2.out; have := HK2.out; have := HK3.out; omega⟩, ⟨by (with_reducible repeat (first | refine blk_drewN ?_ _ | refine blk_drew ?_ | refine blk_alloc ?_ _)); refine blk_put (cs := #[.int .u8 ((rd_T36 l0 x7_2).f0), .string x118001_3]) ?_ 1 _ (by first | rfl | (simp; done)); (with_reducible repeat (first | refine blk_drewN ?_ _ | refine blk_drew ?_ | refine blk_alloc ?_ _)); refine blk_put (cs := #[.int .u8 x118000_3, .string x118001_3]) ?_ 0 _ (by first | rfl | (simp; done)); (with_reducible repeat (first | refine blk_drewN ?_ _ | refine blk_drew ?_ | refine blk_alloc ?_ _)); exact BK117.out⟩, ⟨by repeat (first | (with_reducible first | exact HB.out | apply below_alloc | apply pw_below_drewN | apply below_drew1 | refine below_set ?_ GE117.out) | exact HB.out)⟩⟩
                          · rw [if_neg c21] at H
                            have c21b0 : (((rd_T36 l0 x7_2).f0) == (bt a1 x8_3)) = false := beq_eq_false_iff_ne.mpr c21
                            have c21b1 : (((rd_T36 l0 x7_2).f0) != (bt a1 x8_3)) = true := bne_iff_ne.mpr c21
                            have H' := Aside0.mk H
                            clear H
                            have p118 : 0 ≤ (x7_2 : Int) := of_decide_eq_true (by first | (with_reducible assumption) | assumption)
                            have q118 : x7_2 < (l0.length : Int) := of_decide_eq_true (by first | (with_reducible assumption) | assumption)
                            obtain ⟨ad118, e118, hx118_0, hx118_1⟩ := at_T36 HR0.out x7_2 p118 q118
                            cases e118
                            replace hx118_0 := (HB.out.cell (World.block_lt_of_cell? w _ hx118_0)).trans hx118_0
                            replace hx118_1 := (HB.out.cell (World.block_lt_of_cell? w _ hx118_1)).trans hx118_1
                            replace p118 := eq_true p118
                            replace q118 := eq_true q118
                            have p20 : 0 ≤ (x8_3 : Int) := of_decide_eq_true (by first | (with_reducible assumption) | assumption)
                            have q20 : x8_3 < (a1.size : Int) := of_decide_eq_true (by first | (with_reducible assumption) | assumption)
                            have hx20 := bt_at a1 x8_3
                            replace p20 := eq_true p20
                            replace q20 := eq_true q20
                            go_wp2
                            repeat (go_quiet (fail); try go_wp2)
                            go_roundg k3
                            case measure => have := HJ2.out; have := HK2.out; have := HK3.out; omega
                            case rel => exact ⟨(x6_3), (wrap64 (x8_3 + 1)), (x118000_3), (x118001_3), (by first | rfl | (simp; done) | (simp [*]; done)), (by first | rfl | (simp; done) | (simp [*]; done)), H', ⟨by have := HJ2.out; have := HK2.out; have := HK3.out; omega⟩, ⟨by (with_reducible repeat (first | refine blk_drewN ?_ _ | refine blk_drew ?_ | refine blk_alloc ?_ _)); exact BK117.out⟩, ⟨by repeat (first | (with_reducible first | exact HB.out | apply below_alloc | apply pw_below_drewN | apply below_drew1 | refine below_set ?_ GE117.out) | exact HB.out)⟩⟩
                        · rw [if_neg c19] at H
                          exact absurd H (by simp)
                      · rw [if_neg c18] at H
                        exact absurd H (by simp)
                    · rw [if_neg c17] at H
                      exact absurd H (by simp)
                  · rw [if_neg c16] at H
                    have c16b0 : decide (x8_3 < (a1.size : Int)) = false := decide_eq_false c16
                    clear c16
                    have H' := Aside0.mk H
                    clear H
                    go_wp2
                    repeat (go_quiet (fail); try go_wp2)
                    go_roundg k3
                    case measure => have := HJ2.out; have := HK2.out; have := HK3.out; omega
                    case rel => exact ⟨(x6_3), (wrap64 (x7_2 + 1)), (x118000_3), (x118001_3), (by first | rfl | (simp; done) | (simp [*]; done)), (by first | rfl | (simp; done) | (simp [*]; done)), H', ⟨by have := HJ2.out; have := HK2.out; have := HK3.out; omega⟩, ⟨by (with_reducible repeat (first | refine blk_drewN ?_ _ | refine blk_drew ?_ | refine blk_alloc ?_ _)); exact BK117.out⟩, ⟨by repeat (first | (with_reducible first | exact HB.out | apply below_alloc | apply pw_below_drewN | apply below_drew1 | refine below_set ?_ GE117.out) | exact HB.out)⟩⟩
            · rw [if_neg c15] at H
              have c15b0 : decide (x7_2 < (l0.length : Int)) = false := decide_eq_false c15
              clear c15
              replace H := Option.bind_eq_some_iff.mp H
              obtain ⟨⟨t120, t121, t122⟩, A230, H⟩ := H
              replace H : (if (a1.size : Int) = 1 then (if 0 < (a1.size : Int) then ((opts_Has.f k2 l0 (bt a1 0)).bind fun t124 => (if (t124 != x6_2) = true then (none) else (if (t120 == x118000_2 && (t121.toList == x118001_2.toList)) = true then (some (t122 == x6_2)) else (none)))) else (none)) else (if (t120 == x118000_2 && (t121.toList == x118001_2.toList)) = true then (some (t122 == x6_2)) else (none))) = some r := H
              have A23 := Aside0.mk A230
              clear A230
              by_cases c24 : (a1.size : Int) = 1
              · rw [if_pos c24] at H
                have c24b0 : ((a1.size : Int) == 1) = true := beq_iff_eq.mpr c24
                have c24b1 : ((a1.size : Int) != 1) = false := bne_eq_false_iff_eq.mpr c24
                clear c24
                by_cases c25 : 0 < (a1.size : Int)
                · rw [if_pos c25] at H
                  have c25b0 : decide (0 < (a1.size : Int)) = true := decide_eq_true c25
                  have c25b1 : decide (0 < a1.size) = true := decide_eq_true (by omega)
                  clear c25
                  replace H := Option.bind_eq_some_iff.mp H
                  obtain ⟨t124, A270, H⟩ := H
                  replace H : (if (t124 != x6_2) = true then (none) else (if (t120 == x118000_2 && (t121.toList == x118001_2.toList)) = true then (some (t122 == x6_2)) else (none))) = some r := H
                  have A27 := Aside0.mk A270
                  clear A270
                  by_cases c28 : (t124 != x6_2) = true
                  · rw [if_pos c28] at H
                    exact absurd H (by simp)
                  · rw [if_neg c28] at H
                    have c28b0 : (t124 != x6_2) = false := by simpa using c28
                    (try (have c28b1 : decide (t124 = x6_2) = true := by simpa using c28))
                    (try (have c28b2 : (t124 == x6_2) = true := by simpa using c28))
                    clear c28
                    by_cases c29 : (t120 == x118000_2 && (t121.toList == x118001_2.toList)) = true
                    · rw [if_pos c29] at H
                      have c29b0 : (t120 == x118000_2 && (t121.toList == x118001_2.toList)) = true := c29
                      (try (have c29b1 : decide (t120 = x118000_2 && (t121.toList == x118001_2.toList)) = true := by simpa using c29))
                      (try (have c29b2 : (t120 == x118000_2 && (t121.toList == x118001_2.toList)) = true := by simpa using c29))
                      clear c29
                      obtain rfl := Option.some.inj H
                      go_wp2_with (first | (go_at_call 13; (with_reducible refine (opts_Last.calls k2 _ _ l0 a1 t120 t121 t122 _ ?side1 ?side2 A23.out).mono ?_); (case side1 => repeat (first | exact (Kd.C_below HR0.out HB.out) | (with_reducible refine Kd.C_alloc ?_ _) | (with_reducible refine Kd.C_drewN ?_ _) | (with_reducible refine Kd.C_drew ?_))); (case side2 => exact HC0.out); rintro e w30 ⟨rfl, hb⟩; have n0_ := Aside0.mk (blk_below (g := gb117) (o := .cells #[.int .u8 x118000_2, .string x118001_2] 36 (0, 0)) (by (with_reducible repeat (first | refine blk_drewN ?_ _ | refine blk_drew ?_ | refine blk_alloc ?_ _)); exact BK117.out) hb); have n1_ := Aside0.mk (below_step (by repeat (first | (with_reducible first | exact HB.out | apply below_alloc | apply pw_below_drewN | apply below_drew1 | refine below_set ?_ GE117.out) | exact HB.out)) hb); clear BK117; clear HB; have BK117 := n0_; have HB := n1_; clear n0_ n1_; (try clear hb); (try clear hb2); (try clear hk); (try clear hi)) | ((with_reducible refine gate_dst (N := 9) rfl ?_); (try (refine gate_guard (by rfl) ?_; dsimp only)); refine box_event ?hg (N := 9) ?hd (cs := #[.int .u8 0, .string (⟨#[]⟩ : ByteArray)]) (t := 36) ?hr ?_; (case hd => rfl); (case hg => rfl); (case hr => first | (go_simp; done) | (go_simp; rfl)); intro gb123 hg w31 hbox hb; have n0_ := Aside0.mk (blk_below (g := gb117) (o := .cells #[.int .u8 x118000_2, .string x118001_2] 36 (0, 0)) (by (with_reducible repeat (first | refine blk_drewN ?_ _ | refine blk_drew ?_ | refine blk_alloc ?_ _)); exact BK117.out) hb); have n1_ := Aside0.mk (below_step (by repeat (first | (with_reducible first | exact HB.out | apply below_alloc | apply pw_below_drewN | apply below_drew1 | refine below_set ?_ GE117.out) | exact HB.out)) hb); have n2_ := Aside0.mk (hbox); have n3_ := Aside0.mk ((by rw [hg]; exact (below_size (by repeat (first | (with_reducible first | exact HB.out | apply below_alloc | apply pw_below_drewN | apply below_drew1 | refine below_set ?_ GE117.out) | exact HB.out))) : w.heap.size ≤ gb123)); have n4_ := Aside0.mk ((by rw [hg]; exact (below_size (by repeat (first | (with_reducible first | exact HB.out | apply below_alloc | apply pw_below_drewN | apply below_drew1 | refine below_set ?_ GE117.out) | exact HB.out))) : w.heap.size ≤ gb123)); have n5_ := Aside0.mk ((by rw [hg]; exact Nat.ne_of_lt (blk_lt (g := gb117) (o := .cells #[.int .u8 x118000_2, .string x118001_2] 36 (0, 0)) (by (with_reducible repeat (first | refine blk_drewN ?_ _ | refine blk_drew ?_ | refine blk_alloc ?_ _)); exact BK117.out)) : gb117 ≠ gb123)); have n6_ := Aside0.mk ((by rw [hg]; exact Nat.ne_of_gt (blk_lt (g := gb117) (o := .cells #[.int .u8 x118000_2, .string x118001_2] 36 (0, 0)) (by (with_reducible repeat (first | refine blk_drewN ?_ _ | refine blk_drew ?_ | refine blk_alloc ?_ _)); exact BK117.out)) : gb123 ≠ gb117)); clear BK117; clear HB; have BK117 := n0_; have HB := n1_; have BK123 := n2_; have GW123 := n3_; have GE123 := n4_; have NB117_123 := n5_; have NB123_117 := n6_; clear n0_ n1_ n2_ n3_ n4_ n5_ n6_; clear hb hbox hg; have hnb32 := NB123_117.out; have hnc32 := NB117_123.out; have hcz33_0 : w31.cell? ⟨gb123, 0, none⟩ = some (.int .u8 0) := (blk_cell BK123.out 0).trans rfl; have hcz33_1 : w31.cell? ⟨gb123, 1, none⟩ = some (.string (⟨#[]⟩ : ByteArray)) := (blk_cell BK123.out 1).trans rfl; have hfz33_0 := blk_frozen BK123.out 0; have hfz33_1 := blk_frozen BK123.out 1; have p26 : 0 ≤ (0 : Int) := (by omega); have q26 : 0 < a1.size := (by have : (0 : Int) < (a1.size : Int) := of_decide_eq_true (by first | (with_reducible assumption) | assumption); omega); have hx26 : ∀ h : 0 < a1.size, ((a1[0]'h).toNat : Int) = bt a1 0 := bt_at a1 0; clear p26; have qi26 : (0 < (a1.size : Int)) = True := eq_true (of_decide_eq_true (by first | (with_reducible assumption) | assumption)); replace q26 := eq_true q26) | (go_at_call 14; (with_reducible refine (opts_Has.calls k2 _ _ l0 (bt a1 0) t124 _ ?side1 ?side2 A27.out).mono ?_); (case side1 => exact Kd.C_below HR0.out (by repeat (first | (with_reducible first | exact HB.out | apply below_alloc | apply pw_below_drewN | apply below_drew1 | refine below_set ?_ GE117.out | refine below_set ?_ GE123.out) | exact HB.out))); (case side2 => exact HC0.out); rintro e w34 ⟨rfl, hb⟩; have n0_ := Aside0.mk (blk_below (g := gb117) (o := .cells #[.int .u8 x118000_2, .string x118001_2] 36 (0, 0)) (by (with_reducible repeat (first | refine blk_drewN ?_ _ | refine blk_drew ?_ | refine blk_alloc ?_ _)); refine blk_far ?_ NB117_123.out _; (with_reducible repeat (first | refine blk_drewN ?_ _ | refine blk_drew ?_ | refine blk_alloc ?_ _)); refine blk_far ?_ NB117_123.out _; (with_reducible repeat (first | refine blk_drewN ?_ _ | refine blk_drew ?_ | refine blk_alloc ?_ _)); exact BK117.out) hb); have n1_ := Aside0.mk (blk_below (g := gb123) (o := .cells #[.int .u8 t120, .string t121] 36 (0, 0)) (by (with_reducible repeat (first | refine blk_drewN ?_ _ | refine blk_drew ?_ | refine blk_alloc ?_ _)); refine blk_put (cs := #[.int .u8 t120, .string (⟨#[]⟩ : ByteArray)]) ?_ 1 _ (by first | rfl | (simp; done)); (with_reducible repeat (first | refine blk_drewN ?_ _ | refine blk_drew ?_ | refine blk_alloc ?_ _)); refine blk_put (cs := #[.int .u8 0, .string (⟨#[]⟩ : ByteArray)]) ?_ 0 _ (by first | rfl | (simp; done)); (with_reducible repeat (first | refine blk_drewN ?_ _ | refine blk_drew ?_ | refine blk_alloc ?_ _)); exact BK123.out) hb); have n2_ := Aside0.mk (below_step (by repeat (first | (with_reducible first | exact HB.out | apply below_alloc | apply pw_below_drewN | apply below_drew1 | refine below_set ?_ GE117.out | refine below_set ?_ GE123.out) | exact HB.out)) hb); clear BK117; clear BK123; clear HB; have BK117 := n0_; have BK123 := n1_; have HB := n2_; clear n0_ n1_ n2_; (try clear hb); (try clear hb2); (try clear hk); (try clear hi); have hcz35_0 : w34.cell? ⟨gb123, 0, none⟩ = some (.int .u8 t120) := (blk_cell BK123.out 0).trans rfl; have hcz35_1 : w34.cell? ⟨gb123, 1, none⟩ = some (.string t121) := (blk_cell BK123.out 1).trans rfl; have hfz35_0 := blk_frozen BK123.out 0; have hfz35_1 := blk_frozen BK123.out 1; have hcz36_0 : w34.cell? ⟨gb117, 0, none⟩ = some (.int .u8 x118000_2) := (blk_cell BK117.out 0).trans rfl; have hcz36_1 : w34.cell? ⟨gb117, 1, none⟩ = some (.string x118001_2) := (blk_cell BK117.out 1).trans rfl; have hfz36_0 := blk_frozen BK117.out 0; have hfz36_1 := blk_frozen BK117.out 1))
                      repeat (go_quiet (first | (go_at_call 13; (with_reducible refine (opts_Last.calls k2 _ _ l0 a1 t120 t121 t122 _ ?side1 ?side2 A23.out).mono ?_); (case side1 => repeat (first | exact (Kd.C_below HR0.out HB.out) | (with_reducible refine Kd.C_alloc ?_ _) | (with_reducible refine Kd.C_drewN ?_ _) | (with_reducible refine Kd.C_drew ?_))); (case side2 => exact HC0.out); rintro e w30 ⟨rfl, hb⟩; have n0_ := Aside0.mk (blk_below (g := gb117) (o := .cells #[.int .u8 x118000_2, .string x118001_2] 36 (0, 0)) (by (with_reducible repeat (first | refine blk_drewN ?_ _ | refine blk_drew ?_ | refine blk_alloc ?_ _)); exact BK117.out) hb); have n1_ := Aside0.mk (below_step (by repeat (first | (with_reducible first | exact HB.out | apply below_alloc | apply pw_below_drewN | apply below_drew1 | refine below_set ?_ GE117.out) | exact HB.out)) hb); clear BK117; clear HB; have BK117 := n0_; have HB := n1_; clear n0_ n1_; (try clear hb); (try clear hb2); (try clear hk); (try clear hi)) | ((with_reducible refine gate_dst (N := 9) rfl ?_); (try (refine gate_guard (by rfl) ?_; dsimp only)); refine box_event ?hg (N := 9) ?hd (cs := #[.int .u8 0, .string (⟨#[]⟩ : ByteArray)]) (t := 36) ?hr ?_; (case hd => rfl); (case hg => rfl); (case hr => first | (go_simp; done) | (go_simp; rfl)); intro gb123 hg w31 hbox hb; have n0_ := Aside0.mk (blk_below (g := gb117) (o := .cells #[.int .u8 x118000_2, .string x118001_2] 36 (0, 0)) (by (with_reducible repeat (first | refine blk_drewN ?_ _ | refine blk_drew ?_ | refine blk_alloc ?_ _)); exact BK117.out) hb); have n1_ := Aside0.mk (below_step (by repeat (first | (with_reducible first | exact HB.out | apply below_alloc | apply pw_below_drewN | apply below_drew1 | refine below_set ?_ GE117.out) | exact HB.out)) hb); have n2_ := Aside0.mk (hbox); have n3_ := Aside0.mk ((by rw [hg]; exact (below_size (by repeat (first | (with_reducible first | exact HB.out | apply below_alloc | apply pw_below_drewN | apply below_drew1 | refine below_set ?_ GE117.out) | exact HB.out))) : w.heap.size ≤ gb123)); have n4_ := Aside0.mk ((by rw [hg]; exact (below_size (by repeat (first | (with_reducible first | exact HB.out | apply below_alloc | apply pw_below_drewN | apply below_drew1 | refine below_set ?_ GE117.out) | exact HB.out))) : w.heap.size ≤ gb123)); have n5_ := Aside0.mk ((by rw [hg]; exact Nat.ne_of_lt (blk_lt (g := gb117) (o := .cells #[.int .u8 x118000_2, .string x118001_2] 36 (0, 0)) (by (with_reducible repeat (first | refine blk_drewN ?_ _ | refine blk_drew ?_ | refine blk_alloc ?_ _)); exact BK117.out)) : gb117 ≠ gb123)); have n6_ := Aside0.mk ((by rw [hg]; exact Nat.ne_of_gt (blk_lt (g := gb117) (o := .cells #[.int .u8 x118000_2, .string x118001_2] 36 (0, 0)) (by (with_reducible repeat (first | refine blk_drewN ?_ _ | refine blk_drew ?_ | refine blk_alloc ?_ _)); exact BK117.out)) : gb123 ≠ gb117)); clear BK117; clear HB; have BK117 := n0_; have HB := n1_; have BK123 := n2_; have GW123 := n3_; have GE123 := n4_; have NB117_123 := n5_; have NB123_117 := n6_; clear n0_ n1_ n2_ n3_ n4_ n5_ n6_; clear hb hbox hg; have hnb32 := NB123_117.out; have hnc32 := NB117_123.out; have hcz33_0 : w31.cell? ⟨gb123, 0, none⟩ = some (.int .u8 0) := (blk_cell BK123.out 0).trans rfl; have hcz33_1 : w31.cell? ⟨gb123, 1, none⟩ = some (.string (⟨#[]⟩ : ByteArray)) := (blk_cell BK123.out 1).trans rfl; have hfz33_0 := blk_frozen BK123.out 0; have hfz33_1 := blk_frozen BK123.out 1; have p26 : 0 ≤ (0 : Int) := (by omega); have q26 : 0 < a1.size := (by have : (0 : Int) < (a1.size : Int) := of_decide_eq_true (by first | (with_reducible assumption) | assumption); omega); have hx26 : ∀ h : 0 < a1.size, ((a1[0]'h).toNat : Int) = bt a1 0 := bt_at a1 0; clear p26; have qi26 : (0 < (a1.size : Int)) = True := eq_true (of_decide_eq_true (by first | (with_reducible assumption) | assumption)); replace q26 := eq_true q26) | (go_at_call 14; (with_reducible refine (opts_Has.calls k2 _ _ l0 (bt a1 0) t124 _ ?side1 ?side2 A27.out).mono ?_); (case side1 => exact Kd.C_below HR0.out (by repeat (first | (with_reducible first | exact HB.out | apply below_alloc | apply pw_below_drewN | apply below_drew1 | refine below_set ?_ GE117.out | refine below_set ?_ GE123.out) | exact HB.out))); (case side2 => exact HC0.out); rintro e w34 ⟨rfl, hb⟩; have n0_ := Aside0.mk (blk_below (g := gb117) (o := .cells #[.int .u8 x118000_2, .string x118001_2] 36 (0, 0)) (by (with_reducible repeat (first | refine blk_drewN ?_ _ | refine blk_drew ?_ | refine blk_alloc ?_ _)); refine blk_far ?_ NB117_123.out _; (with_reducible repeat (first | refine blk_drewN ?_ _ | refine blk_drew ?_ | refine blk_alloc ?_ _)); refine blk_far ?_ NB117_123.out _; (with_reducible repeat (first | refine blk_drewN ?_ _ | refine blk_drew ?_ | refine blk_alloc ?_ _)); exact BK117.out) hb); have n1_ := Aside0.mk (blk_below (g := gb123) (o := .cells #[.int .u8 t120, .string t121] 36 (0, 0)) (by (with_reducible repeat (first | refine blk_drewN ?_ _ | refine blk_drew ?_ | refine blk_alloc ?_ _)); refine blk_put (cs := #[.int .u8 t120, .string (⟨#[]⟩ : ByteArray)]) ?_ 1 _ (by first | rfl | (simp; done)); (with_reducible repeat (first | refine blk_drewN ?_ _ | refine blk_drew ?_ | refine blk_alloc ?_ _)); refine blk_put (cs := #[.int .u8 0, .string (⟨#[]⟩ : ByteArray)]) ?_ 0 _ (by first | rfl | (simp; done)); (with_reducible repeat (first | refine blk_drewN ?_ _ | refine blk_drew ?_ | refine blk_alloc ?_ _)); exact BK123.out) hb); have n2_ := Aside0.mk (below_step (by repeat (first | (with_reducible first | exact HB.out | apply below_alloc | apply pw_below_drewN | apply below_drew1 | refine below_set ?_ GE117.out | refine below_set ?_ GE123.out) | exact HB.out)) hb); clear BK117; clear BK123; clear HB; have BK117 := n0_; have BK123 := n1_; have HB := n2_; clear n0_ n1_ n2_; (try clear hb); (try clear hb2); (try clear hk); (try clear hi); have hcz35_0 : w34.cell? ⟨gb123, 0, none⟩ = some (.int .u8 t120) := (blk_cell BK123.out 0).trans rfl; have hcz35_1 : w34.cell? ⟨gb123, 1, none⟩ = some (.string t121) := (blk_cell BK123.out 1).trans rfl; have hfz35_0 := blk_frozen BK123.out 0; have hfz35_1 := blk_frozen BK123.out 1; have hcz36_0 : w34.cell? ⟨gb117, 0, none⟩ = some (.int .u8 x118000_2) := (blk_cell BK117.out 0).trans rfl; have hcz36_1 : w34.cell? ⟨gb117, 1, none⟩ = some (.string x118001_2) := (blk_cell BK117.out 1).trans rfl; have hfz36_0 := blk_frozen BK117.out 0; have hfz36_1 := blk_frozen BK117.out 1)); try go_wp2_with (first | (go_at_call 13; (with_reducible refine (opts_Last.calls k2 _ _ l0 a1 t120 t121 t122 _ ?side1 ?side2 A23.out).mono ?_); (case side1 => repeat (first | exact (Kd.C_below HR0.out HB.out) | (with_reducible refine Kd.C_alloc ?_ _) | (with_reducible refine Kd.C_drewN ?_ _) | (with_reducible refine Kd.C_drew ?_))); (case side2 => exact HC0.out); rintro e w30 ⟨rfl, hb⟩; have n0_ := Aside0.mk (blk_below (g := gb117) (o := .cells #[.int .u8 x118000_2, .string x118001_2] 36 (0, 0)) (by (with_reducible repeat (first | refine blk_drewN ?_ _ | refine blk_drew ?_ | refine blk_alloc ?_ _)); exact BK117.out) hb); have n1_ := Aside0.mk (below_step (by repeat (first | (with_reducible first | exact HB.out | apply below_alloc | apply pw_below_drewN | apply below_drew1 | refine below_set ?_ GE117.out) | exact HB.out)) hb); clear BK117; clear HB; have BK117 := n0_; have HB := n1_; clear n0_ n1_; (try clear hb); (try clear hb2); (try clear hk); (try clear hi)) | ((with_reducible refine gate_dst (N := 9) rfl ?_); (try (refine gate_guard (by rfl) ?_; dsimp only)); refine box_event ?hg (N := 9) ?hd (cs := #[.int .u8 0, .string (⟨#[]⟩ : ByteArray)]) (t := 36) ?hr ?_; (case hd => rfl); (case hg => rfl); (case hr => first | (go_simp; done) | (go_simp; rfl)); intro gb123 hg w31 hbox hb; have n0_ := Aside0.mk (blk_below (g := gb117) (o := .cells #[.int .u8 x118000_2, .string x118001_2] 36 (0, 0)) (by (with_reducible repeat (first | refine blk_drewN ?_ _ | refine blk_drew ?_ | refine blk_alloc ?_ _)); exact BK117.out) hb); have n1_ := Aside0.mk (below_step (by repeat (first | (with_reducible first | exact HB.out | apply below_alloc | apply pw_below_drewN | apply below_drew1 | refine below_set ?_ GE117.out) | exact HB.out)) hb); have n2_ := Aside0.mk (hbox); have n3_ := Aside0.mk ((by rw [hg]; exact (below_size (by repeat (first | (with_reducible first | exact HB.out | apply below_alloc | apply pw_below_drewN | apply below_drew1 | refine below_set ?_ GE117.out) | exact HB.out))) : w.heap.size ≤ gb123)); have n4_ := Aside0.mk ((by rw [hg]; exact (below_size (by repeat (first | (with_reducible first | exact HB.out | apply below_alloc | apply pw_below_drewN | apply below_drew1 | refine below_set ?_ GE117.out) | exact HB.out))) : w.heap.size ≤ gb123)); have n5_ := Aside0.mk ((by rw [hg]; exact Nat.ne_of_lt (blk_lt (g := gb117) (o := .cells #[.int .u8 x118000_2, .string x118001_2] 36 (0, 0)) (by (with_reducible repeat (first | refine blk_drewN ?_ _ | refine blk_drew ?_ | refine blk_alloc ?_ _)); exact BK117.out)) : gb117 ≠ gb123)); have n6_ := Aside0.mk ((by rw [hg]; exact Nat.ne_of_gt (blk_lt (g := gb117) (o := .cells #[.int .u8 x118000_2, .string x118001_2] 36 (0, 0)) (by (with_reducible repeat (first | refine blk_drewN ?_ _ | refine blk_drew ?_ | refine blk_alloc ?_ _)); exact BK117.out)) : gb123 ≠ gb117)); clear BK117; clear HB; have BK117 := n0_; have HB := n1_; have BK123 := n2_; have GW123 := n3_; have GE123 := n4_; have NB117_123 := n5_; have NB123_117 := n6_; clear n0_ n1_ n2_ n3_ n4_ n5_ n6_; clear hb hbox hg; have hnb32 := NB123_117.out; have hnc32 := NB117_123.out; have hcz33_0 : w31.cell? ⟨gb123, 0, none⟩ = some (.int .u8 0) := (blk_cell BK123.out 0).trans rfl; have hcz33_1 : w31.cell? ⟨gb123, 1, none⟩ = some (.string (⟨#[]⟩ : ByteArray)) := (blk_cell BK123.out 1).trans rfl; have hfz33_0 := blk_frozen BK123.out 0; have hfz33_1 := blk_frozen BK123.out 1; have p26 : 0 ≤ (0 : Int) := (by omega); have q26 : 0 < a1.size := (by have : (0 : Int) < (a1.size : Int) := of_decide_eq_true (by first | (with_reducible assumption) | assumption); omega); have hx26 : ∀ h : 0 < a1.size, ((a1[0]'h).toNat : Int) = bt a1 0 := bt_at a1 0; clear p26; have qi26 : (0 < (a1.size : Int)) = True := eq_true (of_decide_eq_true (by first | (with_reducible assumption) | assumption)); replace q26 := eq_true q26) | (go_at_call 14; (with_reducible refine (opts_Has.calls k2 _ _ l0 (bt a1 0) t124 _ ?side1 ?side2 A27.out).mono ?_); (case side1 => exact Kd.C_below HR0.out (by repeat (first | (with_reducible first | exact HB.out | apply below_alloc | apply pw_below_drewN | apply below_drew1 | refine below_set ?_ GE117.out | refine below_set ?_ GE123.out) | exact HB.out))); (case side2 => exact HC0.out); rintro e w34 ⟨rfl, hb⟩; have n0_ := Aside0.mk (blk_below (g := gb117) (o := .cells #[.int .u8 x118000_2, .string x118001_2] 36 (0, 0)) (by (with_reducible repeat (first | refine blk_drewN ?_ _ | refine blk_drew ?_ | refine blk_alloc ?_ _)); refine blk_far ?_ NB117_123.out _; (with_reducible repeat (first | refine blk_drewN ?_ _ | refine blk_drew ?_ | refine blk_alloc ?_ _)); refine blk_far ?_ NB117_123.out _; (with_reducible repeat (first | refine blk_drewN ?_ _ | refine blk_drew ?_ | refine blk_alloc ?_ _)); exact BK117.out) hb); have n1_ := Aside0.mk (blk_below (g := gb123) (o := .cells #[.int .u8 t120, .string t121] 36 (0, 0)) (by (with_reducible repeat (first | refine blk_drewN ?_ _ | refine blk_drew ?_ | refine blk_alloc ?_ _)); refine blk_put (cs := #[.int .u8 t120, .string (⟨#[]⟩ : ByteArray)]) ?_ 1 _ (by first | rfl | (simp; done)); (with_reducible repeat (first | refine blk_drewN ?_ _ | refine blk_drew ?_ | refine blk_alloc ?_ _)); refine blk_put (cs := #[.int .u8 0, .string (⟨#[]⟩ : ByteArray)]) ?_ 0 _ (by first | rfl | (simp; done)); (with_reducible repeat (first | refine blk_drewN ?_ _ | refine blk_drew ?_ | refine blk_alloc ?_ _)); exact BK123.out) hb); have n2_ := Aside0.mk (below_step (by repeat (first | (with_reducible first | exact HB.out | apply below_alloc | apply pw_below_drewN | apply below_drew1 | refine below_set ?_ GE117.out | refine below_set ?_ GE123.out) | exact HB.out)) hb); clear BK117; clear BK123; clear HB; have BK117 := n0_; have BK123 := n1_; have HB := n2_; clear n0_ n1_ n2_; (try clear hb); (try clear hb2); (try clear hk); (try clear hi); have hcz35_0 : w34.cell? ⟨gb123, 0, none⟩ = some (.int .u8 t120) := (blk_cell BK123.out 0).trans rfl; have hcz35_1 : w34.cell? ⟨gb123, 1, none⟩ = some (.string t121) := (blk_cell BK123.out 1).trans rfl; have hfz35_0 := blk_frozen BK123.out 0; have hfz35_1 := blk_frozen BK123.out 1; have hcz36_0 : w34.cell? ⟨gb117, 0, none⟩ = some (.int .u8 x118000_2) := (blk_cell BK117.out 0).trans rfl; have hcz36_1 : w34.cell? ⟨gb117, 1, none⟩ = some (.string x118001_2) := (blk_cell BK117.out 1).trans rfl; have hfz36_0 := blk_frozen BK117.out 0; have hfz36_1 := blk_frozen BK117.out 1)))
                      go_ret
                      exact ⟨by first | rfl | (simp [errW_none, errW_some] <;> rfl) | (simp [*, errW_none, errW_some] <;> rfl), by repeat (first | (with_reducible first | exact HB.out | apply below_alloc | apply pw_below_drewN | apply below_drew1 | refine below_set ?_ GE117.out | refine below_set ?_ GE123.out) | exact HB.out)⟩
                    · rw [if_neg c29] at H
                      exact absurd H (by simp)
                · rw [if_neg c25] at H
                  exact absurd H (by simp)
              · rw [if_neg c24] at H
                have c24b0 : ((a1.size : Int) == 1) = false := beq_eq_false_iff_ne.mpr c24
                have c24b1 : ((a1.size : Int) != 1) = true := bne_iff_ne.mpr c24
                by_cases c37 : (t120 == x118000_2 && (t121.toList == x118001_2.toList)) = true
                · rw [if_pos c37] at H
                  have c37b0 : (t120 == x118000_2 && (t121.toList == x118001_2.toList)) = true := c37
                  (try (have c37b1 : decide (t120 = x118000_2 && (t121.toList == x118001_2.toList)) = true := by simpa using c37))
                  (try (have c37b2 : (t120 == x118000_2 && (t121.toList == x118001_2.toList)) = true := by simpa using c37))
                  clear c37
                  obtain rfl := Option.some.inj H
                  go_wp2_with (first | (go_at_call 13; (with_reducible refine (opts_Last.calls k2 _ _ l0 a1 t120 t121 t122 _ ?side1 ?side2 A23.out).mono ?_); (case side1 => repeat (first | exact (Kd.C_below HR0.out HB.out) | (with_reducible refine Kd.C_alloc ?_ _) | (with_reducible refine Kd.C_drewN ?_ _) | (with_reducible refine Kd.C_drew ?_))); (case side2 => exact HC0.out); rintro e w38 ⟨rfl, hb⟩; have n0_ := Aside0.mk (blk_below (g := gb117) (o := .cells #[.int .u8 x118000_2, .string x118001_2] 36 (0, 0)) (by (with_reducible repeat (first | refine blk_drewN ?_ _ | refine blk_drew ?_ | refine blk_alloc ?_ _)); exact BK117.out) hb); have n1_ := Aside0.mk (below_step (by repeat (first | (with_reducible first | exact HB.out | apply below_alloc | apply pw_below_drewN | apply below_drew1 | refine below_set ?_ GE117.out) | exact HB.out)) hb); clear BK117; clear HB; have BK117 := n0_; have HB := n1_; clear n0_ n1_; (try clear hb); (try clear hb2); (try clear hk); (try clear hi)) | ((with_reducible refine gate_dst (N := 9) rfl ?_); (try (refine gate_guard (by rfl) ?_; dsimp only)); refine box_event ?hg (N := 9) ?hd (cs := #[.int .u8 0, .string (⟨#[]⟩ : ByteArray)]) (t := 36) ?hr ?_; (case hd => rfl); (case hg => rfl); (case hr => first | (go_simp; done) | (go_simp; rfl)); intro gb123 hg w39 hbox hb; have n0_ := Aside0.mk (blk_below (g := gb117) (o := .cells #[.int .u8 x118000_2, .string x118001_2] 36 (0, 0)) (by (with_reducible repeat (first | refine blk_drewN ?_ _ | refine blk_drew ?_ | refine blk_alloc ?_ _)); exact BK117.out) hb); have n1_ := Aside0.mk (below_step (by repeat (first | (with_reducible first | exact HB.out | apply below_alloc | apply pw_below_drewN | apply below_drew1 | refine below_set ?_ GE117.out) | exact HB.out)) hb); have n2_ := Aside0.mk (hbox); have n3_ := Aside0.mk ((by rw [hg]; exact (below_size (by repeat (first | (with_reducible first | exact HB.out | apply below_alloc | apply pw_below_drewN | apply below_drew1 | refine below_set ?_ GE117.out) | exact HB.out))) : w.heap.size ≤ gb123)); have n4_ := Aside0.mk ((by rw [hg]; exact (below_size (by repeat (first | (with_reducible first | exact HB.out | apply below_alloc | apply pw_below_drewN | apply below_drew1 | refine below_set ?_ GE117.out) | exact HB.out))) : w.heap.size ≤ gb123)); have n5_ := Aside0.mk ((by rw [hg]; exact Nat.ne_of_lt (blk_lt (g := gb117) (o := .cells #[.int .u8 x118000_2, .string x118001_2] 36 (0, 0)) (by (with_reducible repeat (first | refine blk_drewN ?_ _ | refine blk_drew ?_ | refine blk_alloc ?_ _)); exact BK117.out)) : gb117 ≠ gb123)); have n6_ := Aside0.mk ((by rw [hg]; exact Nat.ne_of_gt (blk_lt (g := gb117) (o := .cells #[.int .u8 x118000_2, .string x118001_2] 36 (0, 0)) (by (with_reducible repeat (first | refine blk_drewN ?_ _ | refine blk_drew ?_ | refine blk_alloc ?_ _)); exact BK117.out)) : gb123 ≠ gb117)); clear BK117; clear HB; have BK117 := n0_; have HB := n1_; have BK123 := n2_; have GW123 := n3_; have GE123 := n4_; have NB117_123 := n5_; have NB123_117 := n6_; clear n0_ n1_ n2_ n3_ n4_ n5_ n6_; clear hb hbox hg; have hnb40 := NB123_117.out; have hnc40 := NB117_123.out; have hcz41_0 : w39.cell? ⟨gb123, 0, none⟩ = some (.int .u8 0) := (blk_cell BK123.out 0).trans rfl; have hcz41_1 : w39.cell? ⟨gb123, 1, none⟩ = some (.string (⟨#[]⟩ : ByteArray)) := (blk_cell BK123.out 1).trans rfl; have hfz41_0 := blk_frozen BK123.out 0; have hfz41_1 := blk_frozen BK123.out 1; have hcz42_0 : w39.cell? ⟨gb117, 0, none⟩ = some (.int .u8 x118000_2) := (blk_cell BK117.out 0).trans rfl; have hcz42_1 : w39.cell? ⟨gb117, 1, none⟩ = some (.string x118001_2) := (blk_cell BK117.out 1).trans rfl; have hfz42_0 := blk_frozen BK117.out 0; have hfz42_1 := blk_frozen BK117.out 1))
                  repeat (go_quiet (first | (go_at_call 13; (with_reducible refine (opts_Last.calls k2 _ _ l0 a1 t120 t121 t122 _ ?side1 ?side2 A23.out).mono ?_); (case side1 => repeat (first | exact (Kd.C_below HR0.out HB.out) | (with_reducible refine Kd.C_alloc ?_ _) | (with_reducible refine Kd.C_drewN ?_ _) | (with_reducible refine Kd.C_drew ?_))); (case side2 => exact HC0.out); rintro e w38 ⟨rfl, hb⟩; have n0_ := Aside0.mk (blk_below (g := gb117) (o := .cells #[.int .u8 x118000_2, .string x118001_2] 36 (0, 0)) (by (with_reducible repeat (first | refine blk_drewN ?_ _ | refine blk_drew ?_ | refine blk_alloc ?_ _)); exact BK117.out) hb); have n1_ := Aside0.mk (below_step (by repeat (first | (with_reducible first | exact HB.out | apply below_alloc | apply pw_below_drewN | apply below_drew1 | refine below_set ?_ GE117.out) | exact HB.out)) hb); clear BK117; clear HB; have BK117 := n0_; have HB := n1_; clear n0_ n1_; (try clear hb); (try clear hb2); (try clear hk); (try clear hi)) | ((with_reducible refine gate_dst (N := 9) rfl ?_); (try (refine gate_guard (by rfl) ?_; dsimp only)); refine box_event ?hg (N := 9) ?hd (cs := #[.int .u8 0, .string (⟨#[]⟩ : ByteArray)]) (t := 36) ?hr ?_; (case hd => rfl); (case hg => rfl); (case hr => first | (go_simp; done) | (go_simp; rfl)); intro gb123 hg w39 hbox hb; have n0_ := Aside0.mk (blk_below (g := gb117) (o := .cells #[.int .u8 x118000_2, .string x118001_2] 36 (0, 0)) (by (with_reducible repeat (first | refine blk_drewN ?_ _ | refine blk_drew ?_ | refine blk_alloc ?_ _)); exact BK117.out) hb); have n1_ := Aside0.mk (below_step (by repeat (first | (with_reducible first | exact HB.out | apply below_alloc | apply pw_below_drewN | apply below_drew1 | refine below_set ?_ GE117.out) | exact HB.out)) hb); have n2_ := Aside0.mk (hbox); have n3_ := Aside0.mk ((by rw [hg]; exact (below_size (by repeat (first | (with_reducible first | exact HB.out | apply below_alloc | apply pw_below_drewN | apply below_drew1 | refine below_set ?_ GE117.out) | exact HB.out))) : w.heap.size ≤ gb123)); have n4_ := Aside0.mk ((by rw [hg]; exact (below_size (by repeat (first | (with_reducible first | exact HB.out | apply below_alloc | apply pw_below_drewN | apply below_drew1 | refine below_set ?_ GE117.out) | exact HB.out))) : w.heap.size ≤ gb123)); have n5_ := Aside0.mk ((by rw [hg]; exact Nat.ne_of_lt (blk_lt (g := gb117) (o := .cells #[.int .u8 x118000_2, .string x118001_2] 36 (0, 0)) (by (with_reducible repeat (first | refine blk_drewN ?_ _ | refine blk_drew ?_ | refine blk_alloc ?_ _)); exact BK117.out)) : gb117 ≠ gb123)); have n6_ := Aside0.mk ((by rw [hg]; exact Nat.ne_of_gt (blk_lt (g := gb117) (o := .cells #[.int .u8 x118000_2, .string x118001_2] 36 (0, 0)) (by (with_reducible repeat (first | refine blk_drewN ?_ _ | refine blk_drew ?_ | refine blk_alloc ?_ _)); exact BK117.out)) : gb123 ≠ gb117)); clear BK117; clear HB; have BK117 := n0_; have HB := n1_; have BK123 := n2_; have GW123 := n3_; have GE123 := n4_; have NB117_123 := n5_; have NB123_117 := n6_; clear n0_ n1_ n2_ n3_ n4_ n5_ n6_; clear hb hbox hg; have hnb40 := NB123_117.out; have hnc40 := NB117_123.out; have hcz41_0 : w39.cell? ⟨gb123, 0, none⟩ = some (.int .u8 0) := (blk_cell BK123.out 0).trans rfl; have hcz41_1 : w39.cell? ⟨gb123, 1, none⟩ = some (.string (⟨#[]⟩ : ByteArray)) := (blk_cell BK123.out 1).trans rfl; have hfz41_0 := blk_frozen BK123.out 0; have hfz41_1 := blk_frozen BK123.out 1; have hcz42_0 : w39.cell? ⟨gb117, 0, none⟩ = some (.int .u8 x118000_2) := (blk_cell BK117.out 0).trans rfl; have hcz42_1 : w39.cell? ⟨gb117, 1, none⟩ = some (.string x118001_2) := (blk_cell BK117.out 1).trans rfl; have hfz42_0 := blk_frozen BK117.out 0; have hfz42_1 := blk_frozen BK117.out 1)); try go_wp2_with (first | (go_at_call 13; (with_reducible refine (opts_Last.calls k2 _ _ l0 a1 t120 t121 t122 _ ?side1 ?side2 A23.out).mono ?_); (case side1 => repeat (first | exact (Kd.C_below HR0.out HB.out) | (with_reducible refine Kd.C_alloc ?_ _) | (with_reducible refine Kd.C_drewN ?_ _) | (with_reducible refine Kd.C_drew ?_))); (case side2 => exact HC0.out); rintro e w38 ⟨rfl, hb⟩; have n0_ := Aside0.mk (blk_below (g := gb117) (o := .cells #[.int .u8 x118000_2, .string x118001_2] 36 (0, 0)) (by (with_reducible repeat (first | refine blk_drewN ?_ _ | refine blk_drew ?_ | refine blk_alloc ?_ _)); exact BK117.out) hb); have n1_ := Aside0.mk (below_step (by repeat (first | (with_reducible first | exact HB.out | apply below_alloc | apply pw_below_drewN | apply below_drew1 | refine below_set ?_ GE117.out) | exact HB.out)) hb); clear BK117; clear HB; have BK117 := n0_; have HB := n1_; clear n0_ n1_; (try clear hb); (try clear hb2); (try clear hk); (try clear hi)) | ((with_reducible refine gate_dst (N := 9) rfl ?_); (try (refine gate_guard (by rfl) ?_; dsimp only)); refine box_event ?hg (N := 9) ?hd (cs := #[.int .u8 0, .string (⟨#[]⟩ : ByteArray)]) (t := 36) ?hr ?_; (case hd => rfl); (case hg => rfl); (case hr => first | (go_simp; done) | (go_simp; rfl)); intro gb123 hg w39 hbox hb; have n0_ := Aside0.mk (blk_below (g := gb117) (o := .cells #[.int .u8 x118000_2, .string x118001_2] 36 (0, 0)) (by (with_reducible repeat (first | refine blk_drewN ?_ _ | refine blk_drew ?_ | refine blk_alloc ?_ _)); exact BK117.out) hb); have n1_ := Aside0.mk (below_step (by repeat (first | (with_reducible first | exact HB.out | apply below_alloc | apply pw_below_drewN | apply below_drew1 | refine below_set ?_ GE117.out) | exact HB.out)) hb); have n2_ := Aside0.mk (hbox); have n3_ := Aside0.mk ((by rw [hg]; exact (below_size (by repeat (first | (with_reducible first | exact HB.out | apply below_alloc | apply pw_below_drewN | apply below_drew1 | refine below_set ?_ GE117.out) | exact HB.out))) : w.heap.size ≤ gb123)); have n4_ := Aside0.mk ((by rw [hg]; exact (below_size (by repeat (first | (with_reducible first | exact HB.out | apply below_alloc | apply pw_below_drewN | apply below_drew1 | refine below_set ?_ GE117.out) | exact HB.out))) : w.heap.size ≤ gb123)); have n5_ := Aside0.mk ((by rw [hg]; exact Nat.ne_of_lt (blk_lt (g := gb117) (o := .cells #[.int .u8 x118000_2, .string x118001_2] 36 (0, 0)) (by (with_reducible repeat (first | refine blk_drewN ?_ _ | refine blk_drew ?_ | refine blk_alloc ?_ _)); exact BK117.out)) : gb117 ≠ gb123)); have n6_ := Aside0.mk ((by rw [hg]; exact Nat.ne_of_gt (blk_lt (g := gb117) (o := .cells #[.int .u8 x118000_2, .string x118001_2] 36 (0, 0)) (by (with_reducible repeat (first | refine blk_drewN ?_ _ | refine blk_drew ?_ | refine blk_alloc ?_ _)); exact BK117.out)) : gb123 ≠ gb117)); clear BK117; clear HB; have BK117 := n0_; have HB := n1_; have BK123 := n2_; have GW123 := n3_; have GE123 := n4_; have NB117_123 := n5_; have NB123_117 := n6_; clear n0_ n1_ n2_ n3_ n4_ n5_ n6_; clear hb hbox hg; have hnb40 := NB123_117.out; have hnc40 := NB117_123.out; have hcz41_0 : w39.cell? ⟨gb123, 0, none⟩ = some (.int .u8 0) := (blk_cell BK123.out 0).trans rfl; have hcz41_1 : w39.cell? ⟨gb123, 1, none⟩ = some (.string (⟨#[]⟩ : ByteArray)) := (blk_cell BK123.out 1).trans rfl; have hfz41_0 := blk_frozen BK123.out 0; have hfz41_1 := blk_frozen BK123.out 1; have hcz42_0 : w39.cell? ⟨gb117, 0, none⟩ = some (.int .u8 x118000_2) := (blk_cell BK117.out 0).trans rfl; have hcz42_1 : w39.cell? ⟨gb117, 1, none⟩ = some (.string x118001_2) := (blk_cell BK117.out 1).trans rfl; have hfz42_0 := blk_frozen BK117.out 0; have hfz42_1 := blk_frozen BK117.out 1)))
                  go_ret
                  exact ⟨by first | rfl | (simp [errW_none, errW_some] <;> rfl) | (simp [*, errW_none, errW_some] <;> rfl), by repeat (first | (with_reducible first | exact HB.out | apply below_alloc | apply pw_below_drewN | apply below_drew1 | refine below_set ?_ GE117.out | refine below_set ?_ GE123.out) | exact HB.out)⟩
                · rw [if_neg c37] at H
                  exact absurd H (by simp)
end Go.Proofs.Ytljlhknpfnphnaa.QOpts
