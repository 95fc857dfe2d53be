-- Made by a program of this session.
import Derived.Test.YtngcecmfgjgigaaDoorQWidthTextsx0
import Derived.Test.YtngcecmfgjgigaaDoorQWidthTextsx1
namespace Go.Proofs.YtngcecmfgjgigaaDoor.QWidthTexts
open Go.RowKit Go.Proofs.YtngcecmfgjgigaaDoorW.PrintWords Go.Proofs.YtngcecmfgjgigaaDoorW.PrintLast Go.Proofs.YtngcecmfgjgigaaDoorW.PrintMore
attribute [local go_sem] max2_int min2_int max_two min_two max_three min_three max_four min_four   -- for this text's walks alone
open Go.Proofs.YtngcecmfgjgigaaDoor.Ext
set_option linter.unusedVariables false
set_option linter.unusedSimpArgs false

/-! ### domesdayref02_Cut: function 14 -/
def domesdayref02_Cut.l0 : Nat → ByteArray → Int → Int → Int → Option (ByteArray)
  | 0, _, _, _, _ => none
  | k + 1, x0, x1, x5, x6 => if x6 < (x0.size : Int) then (if 0 ≤ x6 then (if x6 ≤ (x0.size : Int) then ((domesdayref02_Next.f k (x0.extract (x6 : Int).toNat x0.size)).bind fun bt104 => ((domesdayref02_Width.f bt104.1).bind fun t106 => (if (wrap64 (x5 + t106)) > x1 then (some (x0.extract 0 (x6 : Int).toNat)) else (domesdayref02_Cut.l0 k x0 x1 (wrap64 (x5 + t106)) (wrap64 (x6 + bt104.2)))))) else (none)) else (none)) else (some x0)
def domesdayref02_Cut.f (k : Nat) (a0 : ByteArray) (a1 : Int) : Option (ByteArray) := domesdayref02_Cut.l0 k a0 a1 0 0
theorem domesdayref02_Cut.mono_l : ∀ k, (∀ y0 y1 y2 y3, LeO (domesdayref02_Cut.l0 k y0 y1 y2 y3) (domesdayref02_Cut.l0 (k + 1) y0 y1 y2 y3))
  | 0 => fun _ _ _ _ r h => by simp [domesdayref02_Cut.l0] at h
  | k + 1 => by
    have ih0 := domesdayref02_Cut.mono_l k
    · intro y0 y1 y2 y3
      unfold domesdayref02_Cut.l0
      repeat' first
      | (with_reducible exact ih0 _ _ _ _)
      | (with_reducible exact domesdayref02_Next.mono _ _)
      | (with_reducible exact LeO.refl _)
      | (with_reducible exact LeO.none _)
      | (with_reducible refine LeO.ite ?_ ?_)
      | (with_reducible refine LeO.bind ?_ (fun _ => ?_))
      | exact ih0 _ _ _ _
      | exact domesdayref02_Next.mono _ _
      | exact LeO.none _
      | refine LeO.ite ?_ ?_
      | refine LeO.bind ?_ (fun _ => ?_)
theorem domesdayref02_Cut.mono : ∀ a0 a1 k, LeO (domesdayref02_Cut.f k a0 a1) (domesdayref02_Cut.f (k + 1) a0 a1) := by
  intro a0 a1 k
  have ih0 := domesdayref02_Cut.mono_l k
  unfold domesdayref02_Cut.f
  repeat' first
      | (with_reducible exact ih0 _ _ _ _)
      | (with_reducible exact domesdayref02_Next.mono _ _)
      | (with_reducible exact LeO.refl _)
      | (with_reducible exact LeO.none _)
      | (with_reducible refine LeO.ite ?_ ?_)
      | (with_reducible refine LeO.bind ?_ (fun _ => ?_))
      | exact ih0 _ _ _ _
      | exact domesdayref02_Next.mono _ _
      | exact LeO.none _
      | refine LeO.ite ?_ ?_
      | refine LeO.bind ?_ (fun _ => ?_)
set_option maxHeartbeats 8000000 in
set_option maxRecDepth 100000 in
theorem domesdayref02_Cut.calls (k : Nat) (a0 : ByteArray) (a1 : Int) (r : ByteArray) (w : World) (h : domesdayref02_Cut.f k a0 a1 = some r) :
    Calls Tryd.prog 14 #[.string a0, .int .i64 a1] w fun e w' => e = .returned (.string r) ∧ Below w.heap.size w w' := by
  have HB := Aside0.mk (Below.refl w.heap.size w)
  have H : (domesdayref02_Cut.l0 k a0 a1 0 0) = some r := h
  clear h
  have H' := Aside0.mk H
  clear H
  go_enter Tryd.func14, Tryd.ntmps14
  go_wp2
  go_loopg [5, 6] k (fun kq v5 v6 w' => ∃ (x5_1 : Int) (x6_1 : Int), v5 = .int .i64 x5_1 ∧ v6 = .int .i64 x6_1 ∧ Aside0 (domesdayref02_Cut.l0 kq a0 a1 x5_1 x6_1 = some r) ∧ Aside0 (kq ≤ k) ∧ Aside0 (Below w.heap.size w w'))
  case atStart => exact ⟨(0), (0), (by first | rfl | (simp; done) | (simp [*]; done)), (by first | rfl | (simp; done) | (simp [*]; done)), H', ⟨Nat.le_refl _⟩, ⟨by repeat (first | (with_reducible first | exact HB.out | apply below_alloc | apply pw_below_drewN | apply below_drew1) | exact HB.out)⟩⟩
  case round =>
    clear H'
    try clear c1
    try clear p2
    obtain ⟨x5_1, x6_1, rfl, rfl, HA, HK1, HB⟩ := hrel
    cases gk with
    | zero => exact absurd HA.out (by simp [domesdayref02_Cut.l0])
    | succ k1 =>
      have H := HA.out
      clear HA
      simp only [domesdayref02_Cut.l0] at H
      by_cases c3 : x6_1 < (a0.size : Int)
      · rw [if_pos c3] at H
        have c3b0 : decide (x6_1 < (a0.size : Int)) = true := decide_eq_true c3
        clear c3
        by_cases c4 : 0 ≤ x6_1
        · rw [if_pos c4] at H
          have c4b0 := eq_true c4
          have c4b1 : decide (0 ≤ x6_1) = true := decide_eq_true c4
          clear c4
          by_cases c5 : x6_1 ≤ (a0.size : Int)
          · rw [if_pos c5] at H
            have c5b0 := eq_true c5
            have c5b1 : decide (x6_1 ≤ (a0.size : Int)) = true := decide_eq_true c5
            clear c5
            replace H := Option.bind_eq_some_iff.mp H
            obtain ⟨⟨t104, t105⟩, A60, H⟩ := H
            replace H : ((domesdayref02_Width.f t104).bind fun t106 => (if (wrap64 (x5_1 + t106)) > a1 then (some (a0.extract 0 (x6_1 : Int).toNat)) else (domesdayref02_Cut.l0 k1 a0 a1 (wrap64 (x5_1 + t106)) (wrap64 (x6_1 + t105))))) = some r := H
            have A6 := Aside0.mk A60
            clear A60
            replace H := Option.bind_eq_some_iff.mp H
            obtain ⟨t106, A70, H⟩ := H
            replace H : (if (wrap64 (x5_1 + t106)) > a1 then (some (a0.extract 0 (x6_1 : Int).toNat)) else (domesdayref02_Cut.l0 k1 a0 a1 (wrap64 (x5_1 + t106)) (wrap64 (x6_1 + t105)))) = some r := H
            have A7 := Aside0.mk A70
            clear A70
            by_cases c8 : (wrap64 (x5_1 + t106)) > a1
            · rw [if_pos c8] at H
              have c8b0 : decide (a1 < (wrap64 (x5_1 + t106))) = true := decide_eq_true c8
              clear c8
              have c9b0 := eq_true (of_decide_eq_true (by first | (with_reducible assumption) | assumption) : 0 ≤ x6_1)
              have c10b0 := eq_true (of_decide_eq_true (by first | (with_reducible assumption) | assumption) : x6_1 ≤ (a0.size : Int))
              obtain rfl := Option.some.inj H
              go_wp2_with (first | ((with_reducible refine gate_callee (f := 18) rfl ?_); refine goesL_ (some 17) rfl rfl Tryd.func18 (by kernel_rfl) rfl #[.string (a0.extract (x6_1 : Int).toNat a0.size)] rfl (by (try simp only [List.map_toArray, List.map_cons, List.map_nil]); first | done | rfl | (simp only [List.length_drop, List.length_take]; rfl)) ?_; (with_reducible refine (domesdayref02_Next.calls k1 (a0.extract (x6_1 : Int).toNat a0.size) t104 t105 _ A6.out).mono ?_); rintro e w' ⟨rfl, ⟨nd, rfl⟩⟩; refine ⟨_, rfl, ?_⟩) | ((with_reducible refine gate_callee (f := 9) rfl ?_); refine goesL_ (some 22) rfl rfl Tryd.func9 (by kernel_rfl) rfl #[.int .i64 t104] rfl (by (try simp only [List.map_toArray, List.map_cons, List.map_nil]); first | done | rfl | (simp only [List.length_drop, List.length_take]; rfl)) ?_; (with_reducible refine (domesdayref02_Width.calls t104 t106 _ A7.out).mono ?_); rintro e w11 ⟨rfl, hb⟩; refine ⟨_, rfl, ?_⟩; have n0_ := Aside0.mk (below_step (by repeat (first | (with_reducible first | exact HB.out | apply below_alloc | apply pw_below_drewN | apply below_drew1) | exact HB.out)) hb); clear HB; have HB := n0_; clear n0_; (try clear hb); (try clear hb2); (try clear hk); (try clear hi)))
              go_ret
              exact ⟨by first | rfl | (simp [errW_none, errW_some] <;> rfl) | (simp [*, errW_none, errW_some] <;> rfl), by repeat (first | (with_reducible first | exact HB.out | apply below_alloc | apply pw_below_drewN | apply below_drew1) | exact HB.out)⟩
            · rw [if_neg c8] at H
              have c8b0 : decide (a1 < (wrap64 (x5_1 + t106))) = false := decide_eq_false c8
              clear c8
              have H' := Aside0.mk H
              clear H
              go_wp2_with (first | ((with_reducible refine gate_callee (f := 18) rfl ?_); refine goesL_ (some 17) rfl rfl Tryd.func18 (by kernel_rfl) rfl #[.string (a0.extract (x6_1 : Int).toNat a0.size)] rfl (by (try simp only [List.map_toArray, List.map_cons, List.map_nil]); first | done | rfl | (simp only [List.length_drop, List.length_take]; rfl)) ?_; (with_reducible refine (domesdayref02_Next.calls k1 (a0.extract (x6_1 : Int).toNat a0.size) t104 t105 _ A6.out).mono ?_); rintro e w' ⟨rfl, ⟨nd, rfl⟩⟩; refine ⟨_, rfl, ?_⟩) | ((with_reducible refine gate_callee (f := 9) rfl ?_); refine goesL_ (some 22) rfl rfl Tryd.func9 (by kernel_rfl) rfl #[.int .i64 t104] rfl (by (try simp only [List.map_toArray, List.map_cons, List.map_nil]); first | done | rfl | (simp only [List.length_drop, List.length_take]; rfl)) ?_; (with_reducible refine (domesdayref02_Width.calls t104 t106 _ A7.out).mono ?_); rintro e w12 ⟨rfl, hb⟩; refine ⟨_, rfl, ?_⟩; have n0_ := Aside0.mk (below_step (by repeat (first | (with_reducible first | exact HB.out | apply below_alloc | apply pw_below_drewN | apply below_drew1) | exact HB.out)) hb); clear HB; have HB := n0_; clear n0_; (try clear hb); (try clear hb2); (try clear hk); (try clear hi)))
              go_roundg k1
              case measure => have := HK1.out; omega
              case rel => exact ⟨(wrap64 (x5_1 + t106)), (wrap64 (x6_1 + t105)), (by first | rfl | (simp; done) | (simp [*]; done)), (by first | rfl | (simp; done) | (simp [*]; done)), H', ⟨by have := HK1.out; omega⟩, ⟨by repeat (first | (with_reducible first | exact HB.out | apply below_alloc | apply pw_below_drewN | apply below_drew1) | exact HB.out)⟩⟩
          · rw [if_neg c5] at H
            exact absurd H (by simp)
        · rw [if_neg c4] at H
          exact absurd H (by simp)
      · rw [if_neg c3] at H
        have c3b0 : decide (x6_1 < (a0.size : Int)) = false := decide_eq_false c3
        clear c3
        obtain rfl := Option.some.inj H
        go_wp2
        go_ret
        exact ⟨by first | rfl | (simp [errW_none, errW_some] <;> rfl) | (simp [*, errW_none, errW_some] <;> rfl), by repeat (first | (with_reducible first | exact HB.out | apply below_alloc | apply pw_below_drewN | apply below_drew1) | exact HB.out)⟩

/-! ### domesdaylaw02_WidthTexts: function 5 -/
def domesdaylaw02_WidthTexts.j0 : Nat → ByteArray → Int → Bool → Option (Bool)
  | 0, _, _, _ => none
  | k + 1, x0, x1, x11 => if x11 = true then ((domesdaylaw02_awake.f).bind fun t108 => (some t108)) else ((width_Of.f x0).bind fun t109 => ((domesdayref02_Of.f k x0).bind fun t110 => (if t109 = t110 then ((width_Cut.f x0 x1).bind fun t111 => ((domesdayref02_Cut.f k x0 x1).bind fun t112 => (some (t111.toList == t112.toList)))) else (none))))
def domesdaylaw02_WidthTexts.f (k : Nat) (a0 : ByteArray) (a1 : Int) : Option (Bool) := (domesdaylaw02_awake.f).bind fun t107 => (if t107 = true then (domesdaylaw02_WidthTexts.j0 k a0 a1 (decide ((a0.size : Int) > 200))) else (domesdaylaw02_WidthTexts.j0 k a0 a1 true))
theorem domesdaylaw02_WidthTexts.mono_l : ∀ k, (∀ y0 y1 y2, LeO (domesdaylaw02_WidthTexts.j0 k y0 y1 y2) (domesdaylaw02_WidthTexts.j0 (k + 1) y0 y1 y2))
  | 0 => fun _ _ _ r h => by simp [domesdaylaw02_WidthTexts.j0] at h
  | k + 1 => by
    have ih0 := domesdaylaw02_WidthTexts.mono_l k
    · intro y0 y1 y2
      unfold domesdaylaw02_WidthTexts.j0
      repeat' first
      | (with_reducible exact ih0 _ _ _)
      | (with_reducible exact domesdayref02_Cut.mono _ _ _)
      | (with_reducible exact domesdayref02_Of.mono _ _)
      | (with_reducible exact LeO.refl _)
      | (with_reducible exact LeO.none _)
      | (with_reducible refine LeO.ite ?_ ?_)
      | (with_reducible refine LeO.bind ?_ (fun _ => ?_))
      | exact ih0 _ _ _
      | exact domesdayref02_Cut.mono _ _ _
      | exact domesdayref02_Of.mono _ _
      | exact LeO.none _
      | refine LeO.ite ?_ ?_
      | refine LeO.bind ?_ (fun _ => ?_)
theorem domesdaylaw02_WidthTexts.mono : ∀ a0 a1 k, LeO (domesdaylaw02_WidthTexts.f k a0 a1) (domesdaylaw02_WidthTexts.f (k + 1) a0 a1) := by
  intro a0 a1 k
  have ih0 := domesdaylaw02_WidthTexts.mono_l k
  unfold domesdaylaw02_WidthTexts.f
  repeat' first
      | (with_reducible exact ih0 _ _ _)
      | (with_reducible exact domesdayref02_Cut.mono _ _ _)
      | (with_reducible exact domesdayref02_Of.mono _ _)
      | (with_reducible exact LeO.refl _)
      | (with_reducible exact LeO.none _)
      | (with_reducible refine LeO.ite ?_ ?_)
      | (with_reducible refine LeO.bind ?_ (fun _ => ?_))
      | exact ih0 _ _ _
      | exact domesdayref02_Cut.mono _ _ _
      | exact domesdayref02_Of.mono _ _
      | exact LeO.none _
      | refine LeO.ite ?_ ?_
      | refine LeO.bind ?_ (fun _ => ?_)
set_option maxHeartbeats 8000000 in
set_option maxRecDepth 100000 in
theorem domesdaylaw02_WidthTexts.calls (k : Nat) (a0 : ByteArray) (a1 : Int) (r : Bool) (w : World) (h : domesdaylaw02_WidthTexts.f k a0 a1 = some r) (HE : Env w) :
    Calls Tryd.prog 5 #[.string a0, .int .i64 a1] w fun e w' => e = .returned (.bool r) ∧ Below w.heap.size w w' := by
  have HEE := Aside0.mk HE
  clear HE
  have HB := Aside0.mk (Below.refl w.heap.size w)
  have H : ((domesdaylaw02_awake.f).bind fun t107 => (if t107 = true then (domesdaylaw02_WidthTexts.j0 k a0 a1 (decide ((a0.size : Int) > 200))) else (domesdaylaw02_WidthTexts.j0 k a0 a1 true))) = some r := h
  clear h
  have HC3 := Aside0.mk H
  clear H
  go_enter Tryd.func5, Tryd.ntmps5
  go_upto_region 1 with (fail)
  go_cut [11] (fun v11 wc => ∃ (kq : Nat) (x11_2 : Bool), v11 = .bool x11_2 ∧ Aside0 (domesdaylaw02_WidthTexts.j0 kq a0 a1 x11_2 = some r) ∧ Aside0 (kq ≤ k) ∧ Aside0 (Below w.heap.size w wc))
  case first =>
    have H := HC3.out
    clear HC3
    replace H := Option.bind_eq_some_iff.mp H
    obtain ⟨t107, A40, H⟩ := H
    replace H : (if t107 = true then (domesdaylaw02_WidthTexts.j0 k a0 a1 (decide ((a0.size : Int) > 200))) else (domesdaylaw02_WidthTexts.j0 k a0 a1 true)) = some r := H
    have A4 := Aside0.mk A40
    clear A40
    by_cases c5 : t107 = true
    · subst c5
      have H1 : (domesdaylaw02_WidthTexts.j0 k a0 a1 (decide ((a0.size : Int) > 200))) = some r := by rw [if_pos rfl] at H; exact H
      clear H
      have H := H1
      clear H1
      have H' := Aside0.mk H
      clear H
      go_wp2_with (first | ((with_reducible refine gate_callee (f := 7) rfl ?_); refine goesL_ (some 5) rfl rfl Tryd.func7 (by kernel_rfl) rfl #[] rfl (by (try simp only [List.map_toArray, List.map_cons, List.map_nil]); first | done | rfl | (simp only [List.length_drop, List.length_take]; rfl)) ?_; (with_reducible refine (domesdaylaw02_awake.calls  true _ A4.out (Env.below HEE.out (by repeat (first | (with_reducible first | exact HB.out | apply below_alloc | apply pw_below_drewN | apply below_drew1) | exact HB.out)))).mono ?_); rintro e w6 ⟨rfl, hb⟩; refine ⟨_, rfl, ?_⟩; have n0_ := Aside0.mk (below_step (by repeat (first | (with_reducible first | exact HB.out | apply below_alloc | apply pw_below_drewN | apply below_drew1) | exact HB.out)) hb); clear HB; have HB := n0_; clear n0_; (try clear hb); (try clear hb2); (try clear hk); (try clear hi)))
      go_meet
      case rel => exact ⟨_, (decide ((a0.size : Int) > 200)), (by first | rfl | (simp; done) | (simp [*]; done)), H', ⟨by first | omega | exact Nat.le_refl _⟩, ⟨by repeat (first | (with_reducible first | exact HB.out | apply below_alloc | apply pw_below_drewN | apply below_drew1) | exact HB.out)⟩⟩
    · replace c5 := Bool.eq_false_iff.mpr c5
      subst c5
      have H1 : (domesdaylaw02_WidthTexts.j0 k a0 a1 true) = some r := by rw [if_neg (show ¬ (false = true) by decide)] at H; exact H
      clear H
      have H := H1
      clear H1
      have H' := Aside0.mk H
      clear H
      go_wp2_with (first | ((with_reducible refine gate_callee (f := 7) rfl ?_); refine goesL_ (some 5) rfl rfl Tryd.func7 (by kernel_rfl) rfl #[] rfl (by (try simp only [List.map_toArray, List.map_cons, List.map_nil]); first | done | rfl | (simp only [List.length_drop, List.length_take]; rfl)) ?_; (with_reducible refine (domesdaylaw02_awake.calls  false _ A4.out (Env.below HEE.out (by repeat (first | (with_reducible first | exact HB.out | apply below_alloc | apply pw_below_drewN | apply below_drew1) | exact HB.out)))).mono ?_); rintro e w7 ⟨rfl, hb⟩; refine ⟨_, rfl, ?_⟩; have n0_ := Aside0.mk (below_step (by repeat (first | (with_reducible first | exact HB.out | apply below_alloc | apply pw_below_drewN | apply below_drew1) | exact HB.out)) hb); clear HB; have HB := n0_; clear n0_; (try clear hb); (try clear hb2); (try clear hk); (try clear hi)))
      go_meet
      case rel => exact ⟨_, (true), (by first | rfl | (simp; done) | (simp [*]; done)), H', ⟨by first | omega | exact Nat.le_refl _⟩, ⟨by repeat (first | (with_reducible first | exact HB.out | apply below_alloc | apply pw_below_drewN | apply below_drew1) | exact HB.out)⟩⟩
  case rest =>
    clear HC3
    try clear p2
    try clear c5
    try clear c7
    obtain ⟨kq, x11_2, rfl, HA, HJ2, HB⟩ := hcut
    cases kq with
    | zero => exact absurd HA.out (by simp [domesdaylaw02_WidthTexts.j0])
    | succ kj2 =>
      have H := HA.out
      clear HA
      simp only [domesdaylaw02_WidthTexts.j0] at H
      by_cases c8 : x11_2 = true
      · subst c8
        have H1 : ((domesdaylaw02_awake.f).bind fun t108 => (some t108)) = some r := by rw [if_pos rfl] at H; exact H
        clear H
        have H := H1
        clear H1
        replace H := Option.bind_eq_some_iff.mp H
        obtain ⟨t108, A90, H⟩ := H
        replace H : (some t108) = some r := H
        have A9 := Aside0.mk A90
        clear A90
        obtain rfl := Option.some.inj H
        go_wp2_with (first | ((with_reducible refine gate_callee (f := 7) rfl ?_); refine goesL_ (some 12) rfl rfl Tryd.func7 (by kernel_rfl) rfl #[] rfl (by (try simp only [List.map_toArray, List.map_cons, List.map_nil]); first | done | rfl | (simp only [List.length_drop, List.length_take]; rfl)) ?_; (with_reducible refine (domesdaylaw02_awake.calls  t108 _ A9.out (Env.below HEE.out (by repeat (first | (with_reducible first | exact HB.out | apply below_alloc | apply pw_below_drewN | apply below_drew1) | exact HB.out)))).mono ?_); rintro e w10 ⟨rfl, hb⟩; refine ⟨_, rfl, ?_⟩; have n0_ := Aside0.mk (below_step (by repeat (first | (with_reducible first | exact HB.out | apply below_alloc | apply pw_below_drewN | apply below_drew1) | exact HB.out)) hb); clear HB; have HB := n0_; clear n0_; (try clear hb); (try clear hb2); (try clear hk); (try clear hi)))
        go_ret
        exact ⟨by first | rfl | (simp [errW_none, errW_some] <;> rfl) | (simp [*, errW_none, errW_some] <;> rfl), by repeat (first | (with_reducible first | exact HB.out | apply below_alloc | apply pw_below_drewN | apply below_drew1) | exact HB.out)⟩
      · replace c8 := Bool.eq_false_iff.mpr c8
        subst c8
        have H1 : ((width_Of.f a0).bind fun t109 => ((domesdayref02_Of.f kj2 a0).bind fun t110 => (if t109 = t110 then ((width_Cut.f a0 a1).bind fun t111 => ((domesdayref02_Cut.f kj2 a0 a1).bind fun t112 => (some (t111.toList == t112.toList)))) else (none)))) = some r := by rw [if_neg (show ¬ (false = true) by decide)] at H; exact H
        clear H
        have H := H1
        clear H1
        replace H := Option.bind_eq_some_iff.mp H
        obtain ⟨t109, A110, H⟩ := H
        replace H : ((domesdayref02_Of.f kj2 a0).bind fun t110 => (if t109 = t110 then ((width_Cut.f a0 a1).bind fun t111 => ((domesdayref02_Cut.f kj2 a0 a1).bind fun t112 => (some (t111.toList == t112.toList)))) else (none))) = some r := H
        have A11 := Aside0.mk A110
        clear A110
        replace H := Option.bind_eq_some_iff.mp H
        obtain ⟨t110, A120, H⟩ := H
        replace H : (if t109 = t110 then ((width_Cut.f a0 a1).bind fun t111 => ((domesdayref02_Cut.f kj2 a0 a1).bind fun t112 => (some (t111.toList == t112.toList)))) else (none)) = some r := H
        have A12 := Aside0.mk A120
        clear A120
        by_cases c13 : t109 = t110
        · rw [if_pos c13] at H
          have c13b0 : (t109 == t110) = true := beq_iff_eq.mpr c13
          have c13b1 : (t109 != t110) = false := bne_eq_false_iff_eq.mpr c13
          clear c13
          replace H := Option.bind_eq_some_iff.mp H
          obtain ⟨t111, A140, H⟩ := H
          replace H : ((domesdayref02_Cut.f kj2 a0 a1).bind fun t112 => (some (t111.toList == t112.toList))) = some r := H
          have A14 := Aside0.mk A140
          clear A140
          replace H := Option.bind_eq_some_iff.mp H
          obtain ⟨t112, A150, H⟩ := H
          replace H : (some (t111.toList == t112.toList)) = some r := H
          have A15 := Aside0.mk A150
          clear A150
          obtain rfl := Option.some.inj H
          go_wp2_with (first | ((with_reducible refine gate_callee (f := 12) rfl ?_); refine goesL_ (some 14) rfl rfl Tryd.func12 (by kernel_rfl) rfl #[.string a0] rfl (by (try simp only [List.map_toArray, List.map_cons, List.map_nil]); first | done | rfl | (simp only [List.length_drop, List.length_take]; rfl)) ?_; (with_reducible refine (width_Of.calls a0 t109 _ A11.out (Env.below HEE.out (by repeat (first | (with_reducible first | exact HB.out | apply below_alloc | apply pw_below_drewN | apply below_drew1) | exact HB.out)))).mono ?_); rintro e w16 ⟨rfl, hb⟩; refine ⟨_, rfl, ?_⟩; have n0_ := Aside0.mk (below_step (by repeat (first | (with_reducible first | exact HB.out | apply below_alloc | apply pw_below_drewN | apply below_drew1) | exact HB.out)) hb); clear HB; have HB := n0_; clear n0_; (try clear hb); (try clear hb2); (try clear hk); (try clear hi)) | ((with_reducible refine gate_callee (f := 10) rfl ?_); refine goesL_ (some 16) rfl rfl Tryd.func10 (by kernel_rfl) rfl #[.string a0] rfl (by (try simp only [List.map_toArray, List.map_cons, List.map_nil]); first | done | rfl | (simp only [List.length_drop, List.length_take]; rfl)) ?_; (with_reducible refine (domesdayref02_Of.calls kj2 a0 t110 _ A12.out).mono ?_); rintro e w17 ⟨rfl, hb⟩; refine ⟨_, rfl, ?_⟩; have n0_ := Aside0.mk (below_step (by repeat (first | (with_reducible first | exact HB.out | apply below_alloc | apply pw_below_drewN | apply below_drew1) | exact HB.out)) hb); clear HB; have HB := n0_; clear n0_; (try clear hb); (try clear hb2); (try clear hk); (try clear hi)) | (go_at_call 13; (with_reducible refine (width_Cut.calls a0 a1 t111 _ A14.out (Env.below HEE.out (by repeat (first | (with_reducible first | exact HB.out | apply below_alloc | apply pw_below_drewN | apply below_drew1) | exact HB.out)))).mono ?_); rintro e w18 ⟨rfl, hb⟩; have n0_ := Aside0.mk (below_step (by repeat (first | (with_reducible first | exact HB.out | apply below_alloc | apply pw_below_drewN | apply below_drew1) | exact HB.out)) hb); clear HB; have HB := n0_; clear n0_; (try clear hb); (try clear hb2); (try clear hk); (try clear hi)) | (go_at_call 14; (with_reducible refine (domesdayref02_Cut.calls kj2 a0 a1 t112 _ A15.out).mono ?_); rintro e w19 ⟨rfl, hb⟩; have n0_ := Aside0.mk (below_step (by repeat (first | (with_reducible first | exact HB.out | apply below_alloc | apply pw_below_drewN | apply below_drew1) | exact HB.out)) hb); clear HB; have HB := n0_; clear n0_; (try clear hb); (try clear hb2); (try clear hk); (try clear hi)))
          go_ret
          exact ⟨by first | rfl | (simp [errW_none, errW_some] <;> rfl) | (simp [*, errW_none, errW_some] <;> rfl), by repeat (first | (with_reducible first | exact HB.out | apply below_alloc | apply pw_below_drewN | apply below_drew1) | exact HB.out)⟩
        · rw [if_neg c13] at H
          exact absurd H (by simp)

/-- THE ONE PURE STATEMENT of domesdaylaw02_WidthTexts: yours. -/
def domesdaylaw02_WidthTexts.Pure : Prop := ∀ (a0 : ByteArray) (a1 : Int), a0.size ≤ 140737488351232 → (Lit.int .i64 a1).wf = true → ∃ k, domesdaylaw02_WidthTexts.f k a0 a1 = some true

end Go.Proofs.YtngcecmfgjgigaaDoor.QWidthTexts
