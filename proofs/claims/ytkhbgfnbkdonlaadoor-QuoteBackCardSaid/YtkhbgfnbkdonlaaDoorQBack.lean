-- Made by a program of this session.
import Derived.Test.YtkhbgfnbkdonlaaDoorQQuo2
import Derived.Test.YtkhbgfnbkdonlaaDoorXShell
import Derived.Test.YtkhbgfnbkdonlaaDoorQQuoC
namespace Go.Proofs.YtkhbgfnbkdonlaaDoor.QQuo
open Go.RowKit Go.Proofs.YtkhbgfnbkdonlaaDoorW.PrintWords Go.Proofs.YtkhbgfnbkdonlaaDoorW.PrintLast Go.Proofs.YtkhbgfnbkdonlaaDoorW.PrintMore
attribute [local go_sem] max2_int min2_int max_two min_two max_three min_three max_four min_four   -- for this text's walks alone
set_option linter.unusedVariables false
set_option linter.unusedSimpArgs false

/-! ### domesdaylaw03_QuoteBack: function 7 -/
def domesdaylaw03_QuoteBack.j0 : Nat → ByteArray → Bool → Option (Bool)
  | 0, _, _ => none
  | k + 1, x0, x17 => if x17 = true then ((domesdaylaw03_awake.f k).bind fun t148 => (some t148)) else ((quote_Quote.f k 2 x0).bind fun t149 => ((quote_Shell.f t149).bind fun bt150 => ((quote_Quote.f k 3 x0).bind fun t152 => ((quote_Shell.f t152).bind fun bt153 => ((quote_Quote.f k 4 x0).bind fun t155 => ((quote_C.f k t155).bind fun bt156 => ((quote_Quote.f k 1 x0).bind fun t158 => ((quote_Shell.f t158).bind fun bt159 => (if bt150.2 = true then (if bt150.1.toList = x0.toList then (if bt153.2 = true then (if bt153.1.toList = x0.toList then (if bt156.2 = true then (if bt156.1.toList = x0.toList then (if bt159.2 = true then (some (bt159.1.toList == x0.toList)) else (none)) else (none)) else (none)) else (none)) else (none)) else (none)) else (none))))))))))
def domesdaylaw03_QuoteBack.f (k : Nat) (a0 : ByteArray) : Option (Bool) := (domesdaylaw03_awake.f k).bind fun t147 => (if t147 = true then (domesdaylaw03_QuoteBack.j0 k a0 (decide ((a0.size : Int) > 200))) else (domesdaylaw03_QuoteBack.j0 k a0 true))
theorem domesdaylaw03_QuoteBack.mono_l : ∀ k, (∀ y0 y1, LeO (domesdaylaw03_QuoteBack.j0 k y0 y1) (domesdaylaw03_QuoteBack.j0 (k + 1) y0 y1))
  | 0 => fun _ _ r h => by simp [domesdaylaw03_QuoteBack.j0] at h
  | k + 1 => by
    have ih0 := domesdaylaw03_QuoteBack.mono_l k
    · intro y0 y1
      unfold domesdaylaw03_QuoteBack.j0
      repeat' first
      | (with_reducible exact ih0 _ _)
      | (with_reducible exact domesdaylaw03_awake.mono _)
      | (with_reducible exact quote_C.mono _ _)
      | (with_reducible exact quote_Quote.mono _ _ _)
      | (with_reducible exact LeO.refl _)
      | (with_reducible exact LeO.none _)
      | (with_reducible refine LeO.ite ?_ ?_)
      | (with_reducible refine LeO.bind ?_ (fun _ => ?_))
      | exact ih0 _ _
      | exact domesdaylaw03_awake.mono _
      | exact quote_C.mono _ _
      | exact quote_Quote.mono _ _ _
      | exact LeO.none _
      | refine LeO.ite ?_ ?_
      | refine LeO.bind ?_ (fun _ => ?_)
theorem domesdaylaw03_QuoteBack.mono : ∀ a0 k, LeO (domesdaylaw03_QuoteBack.f k a0) (domesdaylaw03_QuoteBack.f (k + 1) a0) := by
  intro a0 k
  have ih0 := domesdaylaw03_QuoteBack.mono_l k
  unfold domesdaylaw03_QuoteBack.f
  repeat' first
      | (with_reducible exact ih0 _ _)
      | (with_reducible exact domesdaylaw03_awake.mono _)
      | (with_reducible exact quote_C.mono _ _)
      | (with_reducible exact quote_Quote.mono _ _ _)
      | (with_reducible exact LeO.refl _)
      | (with_reducible exact LeO.none _)
      | (with_reducible refine LeO.ite ?_ ?_)
      | (with_reducible refine LeO.bind ?_ (fun _ => ?_))
      | exact ih0 _ _
      | exact domesdaylaw03_awake.mono _
      | exact quote_C.mono _ _
      | exact quote_Quote.mono _ _ _
      | exact LeO.none _
      | refine LeO.ite ?_ ?_
      | refine LeO.bind ?_ (fun _ => ?_)
set_option maxHeartbeats 8000000 in
set_option maxRecDepth 100000 in
theorem domesdaylaw03_QuoteBack.calls (k : Nat) (a0 : ByteArray) (r : Bool) (w : World) (h : domesdaylaw03_QuoteBack.f k a0 = some r) (HE : Env w) :
    Calls Tryd.prog 7 #[.string a0] w fun e w' => e = .returned (.bool r) ∧ Below w.heap.size w w' := by
  have HEE := Aside0.mk HE
  clear HE
  have HB := Aside0.mk (Below.refl w.heap.size w)
  have H : ((domesdaylaw03_awake.f k).bind fun t147 => (if t147 = true then (domesdaylaw03_QuoteBack.j0 k a0 (decide ((a0.size : Int) > 200))) else (domesdaylaw03_QuoteBack.j0 k a0 true))) = some r := h
  clear h
  have HC2 := Aside0.mk H
  clear H
  go_enter Tryd.func7, Tryd.ntmps7
  go_upto_region 1 with (fail)
  go_cut [17] (fun v17 wc => ∃ (kq : Nat) (x17_1 : Bool), v17 = .bool x17_1 ∧ Aside0 (domesdaylaw03_QuoteBack.j0 kq a0 x17_1 = some r) ∧ Aside0 (kq ≤ k) ∧ Aside0 (Below w.heap.size w wc))
  case first =>
    have H := HC2.out
    clear HC2
    replace H := Option.bind_eq_some_iff.mp H
    obtain ⟨t147, A30, H⟩ := H
    replace H : (if t147 = true then (domesdaylaw03_QuoteBack.j0 k a0 (decide ((a0.size : Int) > 200))) else (domesdaylaw03_QuoteBack.j0 k a0 true)) = some r := H
    have A3 := Aside0.mk A30
    clear A30
    by_cases c4 : t147 = true
    · subst c4
      have H1 : (domesdaylaw03_QuoteBack.j0 k a0 (decide ((a0.size : Int) > 200))) = some r := by rw [if_pos rfl] at H; exact H
      clear H
      have H := H1
      clear H1
      have H' := Aside0.mk H
      clear H
      go_wp2_with (first | ((with_reducible refine gate_callee (f := 8) rfl ?_); refine goesL_ (some 11) rfl rfl Tryd.func8 (by kernel_rfl) rfl #[] rfl (by (try simp only [List.map_toArray, List.map_cons, List.map_nil]); first | done | rfl | (simp only [List.length_drop, List.length_take]; rfl)) ?_; (with_reducible refine (domesdaylaw03_awake.calls k  true _ A3.out (Env.below HEE.out (by repeat (first | (with_reducible first | exact HB.out | apply below_alloc | apply pw_below_drewN | apply below_drew1) | exact HB.out)))).mono ?_); rintro e w5 ⟨rfl, hb⟩; refine ⟨_, rfl, ?_⟩; have n0_ := Aside0.mk (below_step (by repeat (first | (with_reducible first | exact HB.out | apply below_alloc | apply pw_below_drewN | apply below_drew1) | exact HB.out)) hb); clear HB; have HB := n0_; clear n0_; (try clear hb); (try clear hb2); (try clear hk); (try clear hi)))
      go_meet
      case rel => exact ⟨_, (decide ((a0.size : Int) > 200)), (by first | rfl | (simp; done) | (simp [*]; done)), H', ⟨by first | omega | exact Nat.le_refl _⟩, ⟨by repeat (first | (with_reducible first | exact HB.out | apply below_alloc | apply pw_below_drewN | apply below_drew1) | exact HB.out)⟩⟩
    · replace c4 := Bool.eq_false_iff.mpr c4
      subst c4
      have H1 : (domesdaylaw03_QuoteBack.j0 k a0 true) = some r := by rw [if_neg (show ¬ (false = true) by decide)] at H; exact H
      clear H
      have H := H1
      clear H1
      have H' := Aside0.mk H
      clear H
      go_wp2_with (first | ((with_reducible refine gate_callee (f := 8) rfl ?_); refine goesL_ (some 11) rfl rfl Tryd.func8 (by kernel_rfl) rfl #[] rfl (by (try simp only [List.map_toArray, List.map_cons, List.map_nil]); first | done | rfl | (simp only [List.length_drop, List.length_take]; rfl)) ?_; (with_reducible refine (domesdaylaw03_awake.calls k  false _ A3.out (Env.below HEE.out (by repeat (first | (with_reducible first | exact HB.out | apply below_alloc | apply pw_below_drewN | apply below_drew1) | exact HB.out)))).mono ?_); rintro e w6 ⟨rfl, hb⟩; refine ⟨_, rfl, ?_⟩; have n0_ := Aside0.mk (below_step (by repeat (first | (with_reducible first | exact HB.out | apply below_alloc | apply pw_below_drewN | apply below_drew1) | exact HB.out)) hb); clear HB; have HB := n0_; clear n0_; (try clear hb); (try clear hb2); (try clear hk); (try clear hi)))
      go_meet
      case rel => exact ⟨_, (true), (by first | rfl | (simp; done) | (simp [*]; done)), H', ⟨by first | omega | exact Nat.le_refl _⟩, ⟨by repeat (first | (with_reducible first | exact HB.out | apply below_alloc | apply pw_below_drewN | apply below_drew1) | exact HB.out)⟩⟩
  case rest =>
    clear HC2
    try clear p2
    try clear c4
    obtain ⟨kq, x17_1, rfl, HA, HJ1, HB⟩ := hcut
    cases kq with
    | zero => exact absurd HA.out (by simp [domesdaylaw03_QuoteBack.j0])
    | succ kj1 =>
      have H := HA.out
      clear HA
      simp only [domesdaylaw03_QuoteBack.j0] at H
      by_cases c7 : x17_1 = true
      · subst c7
        have H1 : ((domesdaylaw03_awake.f kj1).bind fun t148 => (some t148)) = some r := by rw [if_pos rfl] at H; exact H
        clear H
        have H := H1
        clear H1
        replace H := Option.bind_eq_some_iff.mp H
        obtain ⟨t148, A80, H⟩ := H
        replace H : (some t148) = some r := H
        have A8 := Aside0.mk A80
        clear A80
        obtain rfl := Option.some.inj H
        go_wp2_with (first | ((with_reducible refine gate_callee (f := 8) rfl ?_); refine goesL_ (some 18) rfl rfl Tryd.func8 (by kernel_rfl) rfl #[] rfl (by (try simp only [List.map_toArray, List.map_cons, List.map_nil]); first | done | rfl | (simp only [List.length_drop, List.length_take]; rfl)) ?_; (with_reducible refine (domesdaylaw03_awake.calls kj1  t148 _ A8.out (Env.below HEE.out (by repeat (first | (with_reducible first | exact HB.out | apply below_alloc | apply pw_below_drewN | apply below_drew1) | exact HB.out)))).mono ?_); rintro e w9 ⟨rfl, hb⟩; refine ⟨_, rfl, ?_⟩; have n0_ := Aside0.mk (below_step (by repeat (first | (with_reducible first | exact HB.out | apply below_alloc | apply pw_below_drewN | apply below_drew1) | exact HB.out)) hb); clear HB; have HB := n0_; clear n0_; (try clear hb); (try clear hb2); (try clear hk); (try clear hi)))
        go_ret
        exact ⟨by first | rfl | (simp [errW_none, errW_some] <;> rfl) | (simp [*, errW_none, errW_some] <;> rfl), by repeat (first | (with_reducible first | exact HB.out | apply below_alloc | apply pw_below_drewN | apply below_drew1) | exact HB.out)⟩
      · replace c7 := Bool.eq_false_iff.mpr c7
        subst c7
        have H1 : ((quote_Quote.f kj1 2 a0).bind fun t149 => ((quote_Shell.f t149).bind fun bt150 => ((quote_Quote.f kj1 3 a0).bind fun t152 => ((quote_Shell.f t152).bind fun bt153 => ((quote_Quote.f kj1 4 a0).bind fun t155 => ((quote_C.f kj1 t155).bind fun bt156 => ((quote_Quote.f kj1 1 a0).bind fun t158 => ((quote_Shell.f t158).bind fun bt159 => (if bt150.2 = true then (if bt150.1.toList = a0.toList then (if bt153.2 = true then (if bt153.1.toList = a0.toList then (if bt156.2 = true then (if bt156.1.toList = a0.toList then (if bt159.2 = true then (some (bt159.1.toList == a0.toList)) else (none)) else (none)) else (none)) else (none)) else (none)) else (none)) else (none)))))))))) = some r := by rw [if_neg (show ¬ (false = true) by decide)] at H; exact H
        clear H
        have H := H1
        clear H1
        replace H := Option.bind_eq_some_iff.mp H
        obtain ⟨t149, A100, H⟩ := H
        replace H : ((quote_Shell.f t149).bind fun bt150 => ((quote_Quote.f kj1 3 a0).bind fun t152 => ((quote_Shell.f t152).bind fun bt153 => ((quote_Quote.f kj1 4 a0).bind fun t155 => ((quote_C.f kj1 t155).bind fun bt156 => ((quote_Quote.f kj1 1 a0).bind fun t158 => ((quote_Shell.f t158).bind fun bt159 => (if bt150.2 = true then (if bt150.1.toList = a0.toList then (if bt153.2 = true then (if bt153.1.toList = a0.toList then (if bt156.2 = true then (if bt156.1.toList = a0.toList then (if bt159.2 = true then (some (bt159.1.toList == a0.toList)) else (none)) else (none)) else (none)) else (none)) else (none)) else (none)) else (none))))))))) = some r := H
        have A10 := Aside0.mk A100
        clear A100
        replace H := Option.bind_eq_some_iff.mp H
        obtain ⟨⟨t150, t151⟩, A110, H⟩ := H
        replace H : ((quote_Quote.f kj1 3 a0).bind fun t152 => ((quote_Shell.f t152).bind fun bt153 => ((quote_Quote.f kj1 4 a0).bind fun t155 => ((quote_C.f kj1 t155).bind fun bt156 => ((quote_Quote.f kj1 1 a0).bind fun t158 => ((quote_Shell.f t158).bind fun bt159 => (if t151 = true then (if t150.toList = a0.toList then (if bt153.2 = true then (if bt153.1.toList = a0.toList then (if bt156.2 = true then (if bt156.1.toList = a0.toList then (if bt159.2 = true then (some (bt159.1.toList == a0.toList)) else (none)) else (none)) else (none)) else (none)) else (none)) else (none)) else (none)))))))) = some r := H
        have A11 := Aside0.mk A110
        clear A110
        replace H := Option.bind_eq_some_iff.mp H
        obtain ⟨t152, A120, H⟩ := H
        replace H : ((quote_Shell.f t152).bind fun bt153 => ((quote_Quote.f kj1 4 a0).bind fun t155 => ((quote_C.f kj1 t155).bind fun bt156 => ((quote_Quote.f kj1 1 a0).bind fun t158 => ((quote_Shell.f t158).bind fun bt159 => (if t151 = true then (if t150.toList = a0.toList then (if bt153.2 = true then (if bt153.1.toList = a0.toList then (if bt156.2 = true then (if bt156.1.toList = a0.toList then (if bt159.2 = true then (some (bt159.1.toList == a0.toList)) else (none)) else (none)) else (none)) else (none)) else (none)) else (none)) else (none))))))) = some r := H
        have A12 := Aside0.mk A120
        clear A120
        replace H := Option.bind_eq_some_iff.mp H
        obtain ⟨⟨t153, t154⟩, A130, H⟩ := H
        replace H : ((quote_Quote.f kj1 4 a0).bind fun t155 => ((quote_C.f kj1 t155).bind fun bt156 => ((quote_Quote.f kj1 1 a0).bind fun t158 => ((quote_Shell.f t158).bind fun bt159 => (if t151 = true then (if t150.toList = a0.toList then (if t154 = true then (if t153.toList = a0.toList then (if bt156.2 = true then (if bt156.1.toList = a0.toList then (if bt159.2 = true then (some (bt159.1.toList == a0.toList)) else (none)) else (none)) else (none)) else (none)) else (none)) else (none)) else (none)))))) = some r := H
        have A13 := Aside0.mk A130
        clear A130
        replace H := Option.bind_eq_some_iff.mp H
        obtain ⟨t155, A140, H⟩ := H
        replace H : ((quote_C.f kj1 t155).bind fun bt156 => ((quote_Quote.f kj1 1 a0).bind fun t158 => ((quote_Shell.f t158).bind fun bt159 => (if t151 = true then (if t150.toList = a0.toList then (if t154 = true then (if t153.toList = a0.toList then (if bt156.2 = true then (if bt156.1.toList = a0.toList then (if bt159.2 = true then (some (bt159.1.toList == a0.toList)) else (none)) else (none)) else (none)) else (none)) else (none)) else (none)) else (none))))) = some r := H
        have A14 := Aside0.mk A140
        clear A140
        replace H := Option.bind_eq_some_iff.mp H
        obtain ⟨⟨t156, t157⟩, A150, H⟩ := H
        replace H : ((quote_Quote.f kj1 1 a0).bind fun t158 => ((quote_Shell.f t158).bind fun bt159 => (if t151 = true then (if t150.toList = a0.toList then (if t154 = true then (if t153.toList = a0.toList then (if t157 = true then (if t156.toList = a0.toList then (if bt159.2 = true then (some (bt159.1.toList == a0.toList)) else (none)) else (none)) else (none)) else (none)) else (none)) else (none)) else (none)))) = some r := H
        have A15 := Aside0.mk A150
        clear A150
        replace H := Option.bind_eq_some_iff.mp H
        obtain ⟨t158, A160, H⟩ := H
        replace H : ((quote_Shell.f t158).bind fun bt159 => (if t151 = true then (if t150.toList = a0.toList then (if t154 = true then (if t153.toList = a0.toList then (if t157 = true then (if t156.toList = a0.toList then (if bt159.2 = true then (some (bt159.1.toList == a0.toList)) else (none)) else (none)) else (none)) else (none)) else (none)) else (none)) else (none))) = some r := H
        have A16 := Aside0.mk A160
        clear A160
        replace H := Option.bind_eq_some_iff.mp H
        obtain ⟨⟨t159, t160⟩, A170, H⟩ := H
        replace H : (if t151 = true then (if t150.toList = a0.toList then (if t154 = true then (if t153.toList = a0.toList then (if t157 = true then (if t156.toList = a0.toList then (if t160 = true then (some (t159.toList == a0.toList)) else (none)) else (none)) else (none)) else (none)) else (none)) else (none)) else (none)) = some r := H
        have A17 := Aside0.mk A170
        clear A170
        by_cases c18 : t151 = true
        · subst c18
          have H1 : (if t150.toList = a0.toList then (if t154 = true then (if t153.toList = a0.toList then (if t157 = true then (if t156.toList = a0.toList then (if t160 = true then (some (t159.toList == a0.toList)) else (none)) else (none)) else (none)) else (none)) else (none)) else (none)) = some r := by rw [if_pos rfl] at H; exact H
          clear H
          have H := H1
          clear H1
          by_cases c19 : t150.toList = a0.toList
          · rw [if_pos c19] at H
            have c19b0 : (t150.toList == a0.toList) = true := beq_iff_eq.mpr c19
            have c19b1 : (t150.toList != a0.toList) = false := bne_eq_false_iff_eq.mpr c19
            clear c19
            by_cases c20 : t154 = true
            · subst c20
              have H1 : (if t153.toList = a0.toList then (if t157 = true then (if t156.toList = a0.toList then (if t160 = true then (some (t159.toList == a0.toList)) else (none)) else (none)) else (none)) else (none)) = some r := by rw [if_pos rfl] at H; exact H
              clear H
              have H := H1
              clear H1
              by_cases c21 : t153.toList = a0.toList
              · rw [if_pos c21] at H
                have c21b0 : (t153.toList == a0.toList) = true := beq_iff_eq.mpr c21
                have c21b1 : (t153.toList != a0.toList) = false := bne_eq_false_iff_eq.mpr c21
                clear c21
                by_cases c22 : t157 = true
                · subst c22
                  have H1 : (if t156.toList = a0.toList then (if t160 = true then (some (t159.toList == a0.toList)) else (none)) else (none)) = some r := by rw [if_pos rfl] at H; exact H
                  clear H
                  have H := H1
                  clear H1
                  by_cases c23 : t156.toList = a0.toList
                  · rw [if_pos c23] at H
                    have c23b0 : (t156.toList == a0.toList) = true := beq_iff_eq.mpr c23
                    have c23b1 : (t156.toList != a0.toList) = false := bne_eq_false_iff_eq.mpr c23
                    clear c23
                    by_cases c24 : t160 = true
                    · subst c24
                      have H1 : (some (t159.toList == a0.toList)) = some r := by rw [if_pos rfl] at H; exact H
                      clear H
                      have H := H1
                      clear H1
                      obtain rfl := Option.some.inj H
                      go_wp2_with (first | ((with_reducible refine gate_callee (f := 9) rfl ?_); refine goesL_ (some 21) rfl rfl Tryd.func9 (by kernel_rfl) rfl #[.int .i64 2, .string a0] rfl (by (try simp only [List.map_toArray, List.map_cons, List.map_nil]); first | done | rfl | (simp only [List.length_drop, List.length_take]; rfl)) ?_; (with_reducible refine (quote_Quote.calls kj1 2 a0 t149 _ A10.out (Env.below HEE.out (by repeat (first | (with_reducible first | exact HB.out | apply below_alloc | apply pw_below_drewN | apply below_drew1) | exact HB.out)))).mono ?_); rintro e w25 ⟨rfl, hb⟩; refine ⟨_, rfl, ?_⟩; have n0_ := Aside0.mk (below_step (by repeat (first | (with_reducible first | exact HB.out | apply below_alloc | apply pw_below_drewN | apply below_drew1) | exact HB.out)) hb); clear HB; have HB := n0_; clear n0_; (try clear hb); (try clear hb2); (try clear hk); (try clear hi)) | ((with_reducible refine gate_callee (f := 12) rfl ?_); refine goesL_ (some 22) rfl rfl Tryd.func12 (by kernel_rfl) rfl #[.string t149] rfl (by (try simp only [List.map_toArray, List.map_cons, List.map_nil]); first | done | rfl | (simp only [List.length_drop, List.length_take]; rfl)) ?_; (with_reducible refine (quote_Shell.calls t149 t150 true _ A11.out (Env.below HEE.out (by repeat (first | (with_reducible first | exact HB.out | apply below_alloc | apply pw_below_drewN | apply below_drew1) | exact HB.out)))).mono ?_); rintro e w26 ⟨rfl, hb⟩; refine ⟨_, rfl, ?_⟩; have n0_ := Aside0.mk (below_step (by repeat (first | (with_reducible first | exact HB.out | apply below_alloc | apply pw_below_drewN | apply below_drew1) | exact HB.out)) hb); clear HB; have HB := n0_; clear n0_; (try clear hb); (try clear hb2); (try clear hk); (try clear hi)) | ((with_reducible refine gate_callee (f := 9) rfl ?_); refine goesL_ (some 27) rfl rfl Tryd.func9 (by kernel_rfl) rfl #[.int .i64 3, .string a0] rfl (by (try simp only [List.map_toArray, List.map_cons, List.map_nil]); first | done | rfl | (simp only [List.length_drop, List.length_take]; rfl)) ?_; (with_reducible refine (quote_Quote.calls kj1 3 a0 t152 _ A12.out (Env.below HEE.out (by repeat (first | (with_reducible first | exact HB.out | apply below_alloc | apply pw_below_drewN | apply below_drew1) | exact HB.out)))).mono ?_); rintro e w27 ⟨rfl, hb⟩; refine ⟨_, rfl, ?_⟩; have n0_ := Aside0.mk (below_step (by repeat (first | (with_reducible first | exact HB.out | apply below_alloc | apply pw_below_drewN | apply below_drew1) | exact HB.out)) hb); clear HB; have HB := n0_; clear n0_; (try clear hb); (try clear hb2); (try clear hk); (try clear hi)) | ((with_reducible refine gate_callee (f := 12) rfl ?_); refine goesL_ (some 28) rfl rfl Tryd.func12 (by kernel_rfl) rfl #[.string t152] rfl (by (try simp only [List.map_toArray, List.map_cons, List.map_nil]); first | done | rfl | (simp only [List.length_drop, List.length_take]; rfl)) ?_; (with_reducible refine (quote_Shell.calls t152 t153 true _ A13.out (Env.below HEE.out (by repeat (first | (with_reducible first | exact HB.out | apply below_alloc | apply pw_below_drewN | apply below_drew1) | exact HB.out)))).mono ?_); rintro e w28 ⟨rfl, hb⟩; refine ⟨_, rfl, ?_⟩; have n0_ := Aside0.mk (below_step (by repeat (first | (with_reducible first | exact HB.out | apply below_alloc | apply pw_below_drewN | apply below_drew1) | exact HB.out)) hb); clear HB; have HB := n0_; clear n0_; (try clear hb); (try clear hb2); (try clear hk); (try clear hi)) | ((with_reducible refine gate_callee (f := 9) rfl ?_); refine goesL_ (some 33) rfl rfl Tryd.func9 (by kernel_rfl) rfl #[.int .i64 4, .string a0] rfl (by (try simp only [List.map_toArray, List.map_cons, List.map_nil]); first | done | rfl | (simp only [List.length_drop, List.length_take]; rfl)) ?_; (with_reducible refine (quote_Quote.calls kj1 4 a0 t155 _ A14.out (Env.below HEE.out (by repeat (first | (with_reducible first | exact HB.out | apply below_alloc | apply pw_below_drewN | apply below_drew1) | exact HB.out)))).mono ?_); rintro e w29 ⟨rfl, hb⟩; refine ⟨_, rfl, ?_⟩; have n0_ := Aside0.mk (below_step (by repeat (first | (with_reducible first | exact HB.out | apply below_alloc | apply pw_below_drewN | apply below_drew1) | exact HB.out)) hb); clear HB; have HB := n0_; clear n0_; (try clear hb); (try clear hb2); (try clear hk); (try clear hi)) | ((with_reducible refine gate_callee (f := 14) rfl ?_); refine goesL_ (some 34) rfl rfl Tryd.func14 (by kernel_rfl) rfl #[.string t155] rfl (by (try simp only [List.map_toArray, List.map_cons, List.map_nil]); first | done | rfl | (simp only [List.length_drop, List.length_take]; rfl)) ?_; (with_reducible refine (quote_C.calls kj1 t155 t156 true _ A15.out).mono ?_); rintro e w30 ⟨rfl, hb⟩; refine ⟨_, rfl, ?_⟩; have n0_ := Aside0.mk (below_step (by repeat (first | (with_reducible first | exact HB.out | apply below_alloc | apply pw_below_drewN | apply below_drew1) | exact HB.out)) hb); clear HB; have HB := n0_; clear n0_; (try clear hb); (try clear hb2); (try clear hk); (try clear hi)) | ((with_reducible refine gate_callee (f := 9) rfl ?_); refine goesL_ (some 39) rfl rfl Tryd.func9 (by kernel_rfl) rfl #[.int .i64 1, .string a0] rfl (by (try simp only [List.map_toArray, List.map_cons, List.map_nil]); first | done | rfl | (simp only [List.length_drop, List.length_take]; rfl)) ?_; (with_reducible refine (quote_Quote.calls kj1 1 a0 t158 _ A16.out (Env.below HEE.out (by repeat (first | (with_reducible first | exact HB.out | apply below_alloc | apply pw_below_drewN | apply below_drew1) | exact HB.out)))).mono ?_); rintro e w31 ⟨rfl, hb⟩; refine ⟨_, rfl, ?_⟩; have n0_ := Aside0.mk (below_step (by repeat (first | (with_reducible first | exact HB.out | apply below_alloc | apply pw_below_drewN | apply below_drew1) | exact HB.out)) hb); clear HB; have HB := n0_; clear n0_; (try clear hb); (try clear hb2); (try clear hk); (try clear hi)) | ((with_reducible refine gate_callee (f := 12) rfl ?_); refine goesL_ (some 40) rfl rfl Tryd.func12 (by kernel_rfl) rfl #[.string t158] rfl (by (try simp only [List.map_toArray, List.map_cons, List.map_nil]); first | done | rfl | (simp only [List.length_drop, List.length_take]; rfl)) ?_; (with_reducible refine (quote_Shell.calls t158 t159 true _ A17.out (Env.below HEE.out (by repeat (first | (with_reducible first | exact HB.out | apply below_alloc | apply pw_below_drewN | apply below_drew1) | exact HB.out)))).mono ?_); rintro e w32 ⟨rfl, hb⟩; refine ⟨_, rfl, ?_⟩; have n0_ := Aside0.mk (below_step (by repeat (first | (with_reducible first | exact HB.out | apply below_alloc | apply pw_below_drewN | apply below_drew1) | exact HB.out)) hb); clear HB; have HB := n0_; clear n0_; (try clear hb); (try clear hb2); (try clear hk); (try clear hi)))
                      go_ret
                      exact ⟨by first | rfl | (simp [errW_none, errW_some] <;> rfl) | (simp [*, errW_none, errW_some] <;> rfl), by repeat (first | (with_reducible first | exact HB.out | apply below_alloc | apply pw_below_drewN | apply below_drew1) | exact HB.out)⟩
                    · replace c24 := Bool.eq_false_iff.mpr c24
                      subst c24
                      have H1 : (none) = some r := by rw [if_neg (show ¬ (false = true) by decide)] at H; exact H
                      clear H
                      have H := H1
                      clear H1
                      exact absurd H (by simp)
                  · rw [if_neg c23] at H
                    exact absurd H (by simp)
                · replace c22 := Bool.eq_false_iff.mpr c22
                  subst c22
                  have H1 : (none) = some r := by rw [if_neg (show ¬ (false = true) by decide)] at H; exact H
                  clear H
                  have H := H1
                  clear H1
                  exact absurd H (by simp)
              · rw [if_neg c21] at H
                exact absurd H (by simp)
            · replace c20 := Bool.eq_false_iff.mpr c20
              subst c20
              have H1 : (none) = some r := by rw [if_neg (show ¬ (false = true) by decide)] at H; exact H
              clear H
              have H := H1
              clear H1
              exact absurd H (by simp)
          · rw [if_neg c19] at H
            exact absurd H (by simp)
        · replace c18 := Bool.eq_false_iff.mpr c18
          subst c18
          have H1 : (none) = some r := by rw [if_neg (show ¬ (false = true) by decide)] at H; exact H
          clear H
          have H := H1
          clear H1
          exact absurd H (by simp)

end Go.Proofs.YtkhbgfnbkdonlaaDoor.QQuo
