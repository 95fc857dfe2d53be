-- Made by a program of this session.
import Derived.Test.YtkhbgfnbkdonlaaDoorQQuo2
namespace Go.Proofs.YtkhbgfnbkdonlaaDoor.QQuo
open Go.RowKit Go.Proofs.YtkhbgfnbkdonlaaDoorW.PrintWords Go.Proofs.YtkhbgfnbkdonlaaDoorW.PrintLast Go.Proofs.YtkhbgfnbkdonlaaDoorW.PrintMore
attribute [local go_sem] max2_int min2_int max_two min_two max_three min_three max_four min_four   -- for this text's walks alone
set_option linter.unusedVariables false
set_option linter.unusedSimpArgs false

-- proved elsewhere: function 30 (utf8_DecodeRuneInString)

-- proved elsewhere: function 27 (strings_IndexByte)

/-! ### domesdaylaw03_QuoteApart: function 3 -/
mutual
def domesdaylaw03_QuoteApart.j0 : Nat → ByteArray → ByteArray → Bool → Option (Bool)
  | 0, _, _, _ => none
  | k + 1, x0, x1, x17 => if x17 = true then ((domesdaylaw03_awake.f k).bind fun t132 => (some t132)) else (domesdaylaw03_QuoteApart.l0 k x0 x1 1)
def domesdaylaw03_QuoteApart.l0 : Nat → ByteArray → ByteArray → Int → Option (Bool)
  | 0, _, _, _ => none
  | k + 1, x0, x1, x5 => if x5 ≤ 4 then ((quote_Quote.f k x5 x0).bind fun t133 => ((quote_Quote.f k x5 x1).bind fun t134 => (if ((t133.toList == t134.toList) != (x0.toList == x1.toList)) = true then (none) else (domesdaylaw03_QuoteApart.l0 k x0 x1 (wrap64 (x5 + 1)))))) else (some true)
end
def domesdaylaw03_QuoteApart.f (k : Nat) (a0 : ByteArray) (a1 : ByteArray) : Option (Bool) := (domesdaylaw03_awake.f k).bind fun t131 => (if t131 = true then (if (a0.size : Int) > 100 then (domesdaylaw03_QuoteApart.j0 k a0 a1 true) else (domesdaylaw03_QuoteApart.j0 k a0 a1 (decide ((a1.size : Int) > 100)))) else (domesdaylaw03_QuoteApart.j0 k a0 a1 true))
theorem domesdaylaw03_QuoteApart.mono_l : ∀ k, (∀ y0 y1 y2, LeO (domesdaylaw03_QuoteApart.j0 k y0 y1 y2) (domesdaylaw03_QuoteApart.j0 (k + 1) y0 y1 y2)) ∧ (∀ y0 y1 y2, LeO (domesdaylaw03_QuoteApart.l0 k y0 y1 y2) (domesdaylaw03_QuoteApart.l0 (k + 1) y0 y1 y2))
  | 0 => ⟨fun _ _ _ r h => by simp [domesdaylaw03_QuoteApart.j0] at h, fun _ _ _ r h => by simp [domesdaylaw03_QuoteApart.l0] at h⟩
  | k + 1 => by
    obtain ⟨ih0, ih1⟩ := domesdaylaw03_QuoteApart.mono_l k
    refine ⟨?_, ?_⟩
    · intro y0 y1 y2
      unfold domesdaylaw03_QuoteApart.j0
      repeat' first
      | (with_reducible exact ih0 _ _ _)
      | (with_reducible exact ih1 _ _ _)
      | (with_reducible exact domesdaylaw03_awake.mono _)
      | (with_reducible exact quote_Quote.mono _ _ _)
      | (with_reducible exact LeO.refl _)
      | (with_reducible exact LeO.none _)
      | (with_reducible refine LeO.ite ?_ ?_)
      | (with_reducible refine LeO.bind ?_ (fun _ => ?_))
      | exact ih0 _ _ _
      | exact ih1 _ _ _
      | exact domesdaylaw03_awake.mono _
      | exact quote_Quote.mono _ _ _
      | exact LeO.none _
      | refine LeO.ite ?_ ?_
      | refine LeO.bind ?_ (fun _ => ?_)
    · intro y0 y1 y2
      unfold domesdaylaw03_QuoteApart.l0
      repeat' first
      | (with_reducible exact ih0 _ _ _)
      | (with_reducible exact ih1 _ _ _)
      | (with_reducible exact domesdaylaw03_awake.mono _)
      | (with_reducible exact quote_Quote.mono _ _ _)
      | (with_reducible exact LeO.refl _)
      | (with_reducible exact LeO.none _)
      | (with_reducible refine LeO.ite ?_ ?_)
      | (with_reducible refine LeO.bind ?_ (fun _ => ?_))
      | exact ih0 _ _ _
      | exact ih1 _ _ _
      | exact domesdaylaw03_awake.mono _
      | exact quote_Quote.mono _ _ _
      | exact LeO.none _
      | refine LeO.ite ?_ ?_
      | refine LeO.bind ?_ (fun _ => ?_)
theorem domesdaylaw03_QuoteApart.mono : ∀ a0 a1 k, LeO (domesdaylaw03_QuoteApart.f k a0 a1) (domesdaylaw03_QuoteApart.f (k + 1) a0 a1) := by
  intro a0 a1 k
  obtain ⟨ih0, ih1⟩ := domesdaylaw03_QuoteApart.mono_l k
  unfold domesdaylaw03_QuoteApart.f
  repeat' first
      | (with_reducible exact ih0 _ _ _)
      | (with_reducible exact ih1 _ _ _)
      | (with_reducible exact domesdaylaw03_awake.mono _)
      | (with_reducible exact quote_Quote.mono _ _ _)
      | (with_reducible exact LeO.refl _)
      | (with_reducible exact LeO.none _)
      | (with_reducible refine LeO.ite ?_ ?_)
      | (with_reducible refine LeO.bind ?_ (fun _ => ?_))
      | exact ih0 _ _ _
      | exact ih1 _ _ _
      | exact domesdaylaw03_awake.mono _
      | exact quote_Quote.mono _ _ _
      | exact LeO.none _
      | refine LeO.ite ?_ ?_
      | refine LeO.bind ?_ (fun _ => ?_)
set_option maxHeartbeats 8000000 in
set_option maxRecDepth 100000 in
theorem domesdaylaw03_QuoteApart.calls (k : Nat) (a0 : ByteArray) (a1 : ByteArray) (r : Bool) (w : World) (h : domesdaylaw03_QuoteApart.f k a0 a1 = some r) (HE : Env w) :
    Calls Tryd.prog 3 #[.string a0, .string a1] w fun e w' => e = .returned (.bool r) ∧ Below w.heap.size w w' := by
  have HEE := Aside0.mk HE
  clear HE
  have HB := Aside0.mk (Below.refl w.heap.size w)
  have H : ((domesdaylaw03_awake.f k).bind fun t131 => (if t131 = true then (if (a0.size : Int) > 100 then (domesdaylaw03_QuoteApart.j0 k a0 a1 true) else (domesdaylaw03_QuoteApart.j0 k a0 a1 (decide ((a1.size : Int) > 100)))) else (domesdaylaw03_QuoteApart.j0 k a0 a1 true))) = some r := h
  clear h
  have HC3 := Aside0.mk H
  clear H
  go_enter Tryd.func3, Tryd.ntmps3
  go_upto_region 1 with (fail)
  go_cut [17] (fun v17 wc => ∃ (kq : Nat) (x17_2 : Bool), v17 = .bool x17_2 ∧ Aside0 (domesdaylaw03_QuoteApart.j0 kq a0 a1 x17_2 = some r) ∧ Aside0 (kq ≤ k) ∧ Aside0 (Below w.heap.size w wc))
  case first =>
    have H := HC3.out
    clear HC3
    replace H := Option.bind_eq_some_iff.mp H
    obtain ⟨t131, A40, H⟩ := H
    replace H : (if t131 = true then (if (a0.size : Int) > 100 then (domesdaylaw03_QuoteApart.j0 k a0 a1 true) else (domesdaylaw03_QuoteApart.j0 k a0 a1 (decide ((a1.size : Int) > 100)))) else (domesdaylaw03_QuoteApart.j0 k a0 a1 true)) = some r := H
    have A4 := Aside0.mk A40
    clear A40
    by_cases c5 : t131 = true
    · subst c5
      have H1 : (if (a0.size : Int) > 100 then (domesdaylaw03_QuoteApart.j0 k a0 a1 true) else (domesdaylaw03_QuoteApart.j0 k a0 a1 (decide ((a1.size : Int) > 100)))) = some r := by rw [if_pos rfl] at H; exact H
      clear H
      have H := H1
      clear H1
      by_cases c6 : (a0.size : Int) > 100
      · rw [if_pos c6] at H
        have c6b0 : decide (100 < (a0.size : Int)) = true := decide_eq_true c6
        have c6b1 : decide (100 < a0.size) = true := decide_eq_true (by omega)
        clear c6
        (first | rw [c6b0] | (simp only [i64_w, i32_w]; rw [c6b0]) | skip)
        have H' := Aside0.mk H
        clear H
        go_wp2_with (first | ((with_reducible refine gate_callee (f := 8) rfl ?_); refine goesL_ (some 6) rfl rfl Tryd.func8 (by kernel_rfl) rfl #[] rfl (by (try simp only [List.map_toArray, List.map_cons, List.map_nil]); first | done | rfl | (simp only [List.length_drop, List.length_take]; rfl)) ?_; (with_reducible refine (domesdaylaw03_awake.calls k  true _ A4.out (Env.below HEE.out (by repeat (first | (with_reducible first | exact HB.out | apply below_alloc | apply pw_below_drewN | apply below_drew1) | exact HB.out)))).mono ?_); rintro e w7 ⟨rfl, hb⟩; refine ⟨_, rfl, ?_⟩; have n0_ := Aside0.mk (below_step (by repeat (first | (with_reducible first | exact HB.out | apply below_alloc | apply pw_below_drewN | apply below_drew1) | exact HB.out)) hb); clear HB; have HB := n0_; clear n0_; (try clear hb); (try clear hb2); (try clear hk); (try clear hi)))
        go_meet
        case rel => exact ⟨_, (true), (by first | rfl | (simp; done) | (simp [*]; done)), H', ⟨by first | omega | exact Nat.le_refl _⟩, ⟨by repeat (first | (with_reducible first | exact HB.out | apply below_alloc | apply pw_below_drewN | apply below_drew1) | exact HB.out)⟩⟩
      · rw [if_neg c6] at H
        have c6b0 : decide (100 < (a0.size : Int)) = false := decide_eq_false c6
        have c6b1 : decide (100 < a0.size) = false := decide_eq_false (by omega)
        clear c6
        (first | rw [c6b0] | (simp only [i64_w, i32_w]; rw [c6b0]) | skip)
        have H' := Aside0.mk H
        clear H
        go_wp2_with (first | ((with_reducible refine gate_callee (f := 8) rfl ?_); refine goesL_ (some 6) rfl rfl Tryd.func8 (by kernel_rfl) rfl #[] rfl (by (try simp only [List.map_toArray, List.map_cons, List.map_nil]); first | done | rfl | (simp only [List.length_drop, List.length_take]; rfl)) ?_; (with_reducible refine (domesdaylaw03_awake.calls k  true _ A4.out (Env.below HEE.out (by repeat (first | (with_reducible first | exact HB.out | apply below_alloc | apply pw_below_drewN | apply below_drew1) | exact HB.out)))).mono ?_); rintro e w8 ⟨rfl, hb⟩; refine ⟨_, rfl, ?_⟩; have n0_ := Aside0.mk (below_step (by repeat (first | (with_reducible first | exact HB.out | apply below_alloc | apply pw_below_drewN | apply below_drew1) | exact HB.out)) hb); clear HB; have HB := n0_; clear n0_; (try clear hb); (try clear hb2); (try clear hk); (try clear hi)))
        go_meet
        case rel => exact ⟨_, (decide ((a1.size : Int) > 100)), (by first | rfl | (simp; done) | (simp [*]; done)), H', ⟨by first | omega | exact Nat.le_refl _⟩, ⟨by repeat (first | (with_reducible first | exact HB.out | apply below_alloc | apply pw_below_drewN | apply below_drew1) | exact HB.out)⟩⟩
    · replace c5 := Bool.eq_false_iff.mpr c5
      subst c5
      have H1 : (domesdaylaw03_QuoteApart.j0 k a0 a1 true) = some r := by rw [if_neg (show ¬ (false = true) by decide)] at H; exact H
      clear H
      have H := H1
      clear H1
      have H' := Aside0.mk H
      clear H
      go_wp2_with (first | ((with_reducible refine gate_callee (f := 8) rfl ?_); refine goesL_ (some 6) rfl rfl Tryd.func8 (by kernel_rfl) rfl #[] rfl (by (try simp only [List.map_toArray, List.map_cons, List.map_nil]); first | done | rfl | (simp only [List.length_drop, List.length_take]; rfl)) ?_; (with_reducible refine (domesdaylaw03_awake.calls k  false _ A4.out (Env.below HEE.out (by repeat (first | (with_reducible first | exact HB.out | apply below_alloc | apply pw_below_drewN | apply below_drew1) | exact HB.out)))).mono ?_); rintro e w9 ⟨rfl, hb⟩; refine ⟨_, rfl, ?_⟩; have n0_ := Aside0.mk (below_step (by repeat (first | (with_reducible first | exact HB.out | apply below_alloc | apply pw_below_drewN | apply below_drew1) | exact HB.out)) hb); clear HB; have HB := n0_; clear n0_; (try clear hb); (try clear hb2); (try clear hk); (try clear hi)))
      go_meet
      case rel => exact ⟨_, (true), (by first | rfl | (simp; done) | (simp [*]; done)), H', ⟨by first | omega | exact Nat.le_refl _⟩, ⟨by repeat (first | (with_reducible first | exact HB.out | apply below_alloc | apply pw_below_drewN | apply below_drew1) | exact HB.out)⟩⟩
  case rest =>
    clear HC3
    try clear p2
    try clear c3
    try clear c5
    try clear c6
    try clear c6b0
    try clear c6b1
    try clear c8
    obtain ⟨kq, x17_2, rfl, HA, HJ2, HB⟩ := hcut
    cases kq with
    | zero => exact absurd HA.out (by simp [domesdaylaw03_QuoteApart.j0])
    | succ kj2 =>
      have H := HA.out
      clear HA
      simp only [domesdaylaw03_QuoteApart.j0] at H
      by_cases c10 : x17_2 = true
      · subst c10
        have H1 : ((domesdaylaw03_awake.f kj2).bind fun t132 => (some t132)) = some r := by rw [if_pos rfl] at H; exact H
        clear H
        have H := H1
        clear H1
        replace H := Option.bind_eq_some_iff.mp H
        obtain ⟨t132, A110, H⟩ := H
        replace H : (some t132) = some r := H
        have A11 := Aside0.mk A110
        clear A110
        obtain rfl := Option.some.inj H
        go_wp2_with (first | ((with_reducible refine gate_callee (f := 8) rfl ?_); refine goesL_ (some 18) rfl rfl Tryd.func8 (by kernel_rfl) rfl #[] rfl (by (try simp only [List.map_toArray, List.map_cons, List.map_nil]); first | done | rfl | (simp only [List.length_drop, List.length_take]; rfl)) ?_; (with_reducible refine (domesdaylaw03_awake.calls kj2  t132 _ A11.out (Env.below HEE.out (by repeat (first | (with_reducible first | exact HB.out | apply below_alloc | apply pw_below_drewN | apply below_drew1) | exact HB.out)))).mono ?_); rintro e w12 ⟨rfl, hb⟩; refine ⟨_, rfl, ?_⟩; have n0_ := Aside0.mk (below_step (by repeat (first | (with_reducible first | exact HB.out | apply below_alloc | apply pw_below_drewN | apply below_drew1) | exact HB.out)) hb); clear HB; have HB := n0_; clear n0_; (try clear hb); (try clear hb2); (try clear hk); (try clear hi)))
        go_ret
        exact ⟨by first | rfl | (simp [errW_none, errW_some] <;> rfl) | (simp [*, errW_none, errW_some] <;> rfl), by repeat (first | (with_reducible first | exact HB.out | apply below_alloc | apply pw_below_drewN | apply below_drew1) | exact HB.out)⟩
      · replace c10 := Bool.eq_false_iff.mpr c10
        subst c10
        have H1 : (domesdaylaw03_QuoteApart.l0 kj2 a0 a1 1) = some r := by rw [if_neg (show ¬ (false = true) by decide)] at H; exact H
        clear H
        have H := H1
        clear H1
        have H' := Aside0.mk H
        clear H
        go_wp2
        go_loopg [5] kj2 (fun kq v5 w' => ∃ (x5_2 : Int), v5 = .int .i64 x5_2 ∧ Aside0 (domesdaylaw03_QuoteApart.l0 kq a0 a1 x5_2 = some r) ∧ Aside0 (kq ≤ kj2) ∧ Aside0 (Below w.heap.size w w'))
        case atStart => exact ⟨(1), (by first | rfl | (simp; done) | (simp [*]; done)), H', ⟨Nat.le_refl _⟩, ⟨by repeat (first | (with_reducible first | exact HB.out | apply below_alloc | apply pw_below_drewN | apply below_drew1) | exact HB.out)⟩⟩
        case round =>
          clear H'
          try clear c1
          try clear p2
          try clear c3
          try clear c5
          try clear c6
          try clear c6b0
          try clear c6b1
          try clear c8
          try clear c10
          try clear p2
          obtain ⟨x5_2, rfl, HA, HK2, HB⟩ := hrel
          cases gk with
          | zero => exact absurd HA.out (by simp [domesdaylaw03_QuoteApart.l0])
          | succ k2 =>
            have H := HA.out
            clear HA
            simp only [domesdaylaw03_QuoteApart.l0] at H
            by_cases c13 : x5_2 ≤ 4
            · rw [if_pos c13] at H
              have c13b0 : decide (x5_2 ≤ 4) = true := decide_eq_true c13
              clear c13
              replace H := Option.bind_eq_some_iff.mp H
              obtain ⟨t133, A140, H⟩ := H
              replace H : ((quote_Quote.f k2 x5_2 a1).bind fun t134 => (if ((t133.toList == t134.toList) != (a0.toList == a1.toList)) = true then (none) else (domesdaylaw03_QuoteApart.l0 k2 a0 a1 (wrap64 (x5_2 + 1))))) = some r := H
              have A14 := Aside0.mk A140
              clear A140
              replace H := Option.bind_eq_some_iff.mp H
              obtain ⟨t134, A150, H⟩ := H
              replace H : (if ((t133.toList == t134.toList) != (a0.toList == a1.toList)) = true then (none) else (domesdaylaw03_QuoteApart.l0 k2 a0 a1 (wrap64 (x5_2 + 1)))) = some r := H
              have A15 := Aside0.mk A150
              clear A150
              by_cases c16 : ((t133.toList == t134.toList) != (a0.toList == a1.toList)) = true
              · rw [if_pos c16] at H
                exact absurd H (by simp)
              · rw [if_neg c16] at H
                have c16b0 : ((t133.toList == t134.toList) != (a0.toList == a1.toList)) = false := by simpa using c16
                (try (have c16b1 : decide ((t133.toList == t134.toList) = (a0.toList == a1.toList)) = true := by simpa using c16))
                (try (have c16b2 : ((t133.toList == t134.toList) == (a0.toList == a1.toList)) = true := by simpa using c16))
                clear c16
                have H' := Aside0.mk H
                clear H
                go_wp2_with (first | ((with_reducible refine gate_callee (f := 9) rfl ?_); refine goesL_ (some 25) rfl rfl Tryd.func9 (by kernel_rfl) rfl #[.int .i64 x5_2, .string a0] rfl (by (try simp only [List.map_toArray, List.map_cons, List.map_nil]); first | done | rfl | (simp only [List.length_drop, List.length_take]; rfl)) ?_; (with_reducible refine (quote_Quote.calls k2 x5_2 a0 t133 _ A14.out (Env.below HEE.out (by repeat (first | (with_reducible first | exact HB.out | apply below_alloc | apply pw_below_drewN | apply below_drew1) | exact HB.out)))).mono ?_); rintro e w17 ⟨rfl, hb⟩; refine ⟨_, rfl, ?_⟩; have n0_ := Aside0.mk (below_step (by repeat (first | (with_reducible first | exact HB.out | apply below_alloc | apply pw_below_drewN | apply below_drew1) | exact HB.out)) hb); clear HB; have HB := n0_; clear n0_; (try clear hb); (try clear hb2); (try clear hk); (try clear hi)) | ((with_reducible refine gate_callee (f := 9) rfl ?_); refine goesL_ (some 28) rfl rfl Tryd.func9 (by kernel_rfl) rfl #[.int .i64 x5_2, .string a1] rfl (by (try simp only [List.map_toArray, List.map_cons, List.map_nil]); first | done | rfl | (simp only [List.length_drop, List.length_take]; rfl)) ?_; (with_reducible refine (quote_Quote.calls k2 x5_2 a1 t134 _ A15.out (Env.below HEE.out (by repeat (first | (with_reducible first | exact HB.out | apply below_alloc | apply pw_below_drewN | apply below_drew1) | exact HB.out)))).mono ?_); rintro e w18 ⟨rfl, hb⟩; refine ⟨_, rfl, ?_⟩; have n0_ := Aside0.mk (below_step (by repeat (first | (with_reducible first | exact HB.out | apply below_alloc | apply pw_below_drewN | apply below_drew1) | exact HB.out)) hb); clear HB; have HB := n0_; clear n0_; (try clear hb); (try clear hb2); (try clear hk); (try clear hi)))
                go_roundg k2
                case measure => have := HJ2.out; have := HK2.out; omega
                case rel => exact ⟨(wrap64 (x5_2 + 1)), (by first | rfl | (simp; done) | (simp [*]; done)), H', ⟨by have := HJ2.out; have := HK2.out; omega⟩, ⟨by repeat (first | (with_reducible first | exact HB.out | apply below_alloc | apply pw_below_drewN | apply below_drew1) | exact HB.out)⟩⟩
            · rw [if_neg c13] at H
              have c13b0 : decide (x5_2 ≤ 4) = false := decide_eq_false c13
              clear c13
              obtain rfl := Option.some.inj H
              go_wp2
              go_ret
              exact ⟨by first | rfl | (simp [errW_none, errW_some] <;> rfl) | (simp [*, errW_none, errW_some] <;> rfl), by repeat (first | (with_reducible first | exact HB.out | apply below_alloc | apply pw_below_drewN | apply below_drew1) | exact HB.out)⟩

end Go.Proofs.YtkhbgfnbkdonlaaDoor.QQuo
