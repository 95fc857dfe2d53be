-- Made by a program of this session.
import Derived.Test.YtkhbgfnbkdonlaaDoorQQuoR3
import Derived.Test.YtkhbgfnbkdonlaaDoorXShell
import Derived.Test.YtkhbgfnbkdonlaaDoorQQuoC
namespace Go.Proofs.YtkhbgfnbkdonlaaDoor.QQuo
open Go.RowKit Go.Proofs.YtkhbgfnbkdonlaaDoorW.PrintWords Go.Proofs.YtkhbgfnbkdonlaaDoorW.PrintLast Go.Proofs.YtkhbgfnbkdonlaaDoorW.PrintMore
attribute [local go_sem] max2_int min2_int max_two min_two max_three min_three max_four min_four   -- for this text's walks alone
set_option linter.unusedVariables false
set_option linter.unusedSimpArgs false

/-! ### domesdaylaw03_QuoteReads: function 6 -/
def domesdaylaw03_QuoteReads.j0 : Nat → ByteArray → Bool → Option (Bool)
 | 0, _, _ => none
 | k + 1, x0, x17 => if x17 = true then ((domesdaylaw03_awake.f k).bind fun t190 => (some t190)) else ((quote_Shell.f x0).bind fun bt191 => ((domesdayref03_Shell.f k x0).bind fun bt193 => ((quote_C.f k x0).bind fun bt195 => ((domesdayref03_C.f k x0).bind fun bt197 => (if bt191.1.toList = bt193.1.toList then (if (bt191.2 == bt193.2) = true then (if bt195.1.toList = bt197.1.toList then (some (bt195.2 == bt197.2)) else (none)) else (none)) else (none))))))
def domesdaylaw03_QuoteReads.f (k : Nat) (a0 : ByteArray) : Option (Bool) := (domesdaylaw03_awake.f k).bind fun t189 => (if t189 = true then (domesdaylaw03_QuoteReads.j0 k a0 (decide ((a0.size : Int) > 200))) else (domesdaylaw03_QuoteReads.j0 k a0 true))
theorem domesdaylaw03_QuoteReads.mono_l : ∀ k, (∀ y0 y1, LeO (domesdaylaw03_QuoteReads.j0 k y0 y1) (domesdaylaw03_QuoteReads.j0 (k + 1) y0 y1))
 | 0 => fun _ _ r h => by simp [domesdaylaw03_QuoteReads.j0] at h
 | k + 1 => by
  have ih0 := domesdaylaw03_QuoteReads.mono_l k
  ·intro y0 y1
   unfold domesdaylaw03_QuoteReads.j0
   repeat' first
   | (with_reducible exact ih0 _ _)
   | (with_reducible exact domesdaylaw03_awake.mono _)
   | (with_reducible exact domesdayref03_C.mono _ _)
   | (with_reducible exact domesdayref03_Shell.mono _ _)
   | (with_reducible exact quote_C.mono _ _)
   | (with_reducible exact LeO.refl _)
   | (with_reducible exact LeO.none _)
   | (with_reducible refine LeO.ite ?_ ?_)
   | (with_reducible refine LeO.bind ?_ (fun _ => ?_))
   | exact ih0 _ _
   | exact domesdaylaw03_awake.mono _
   | exact domesdayref03_C.mono _ _
   | exact domesdayref03_Shell.mono _ _
   | exact quote_C.mono _ _
   | exact LeO.none _
   | refine LeO.ite ?_ ?_
   | refine LeO.bind ?_ (fun _ => ?_)
theorem domesdaylaw03_QuoteReads.mono : ∀ a0 k, LeO (domesdaylaw03_QuoteReads.f k a0) (domesdaylaw03_QuoteReads.f (k + 1) a0) := by
 intro a0 k
 have ih0 := domesdaylaw03_QuoteReads.mono_l k
 unfold domesdaylaw03_QuoteReads.f
 repeat' first
   | (with_reducible exact ih0 _ _)
   | (with_reducible exact domesdaylaw03_awake.mono _)
   | (with_reducible exact domesdayref03_C.mono _ _)
   | (with_reducible exact domesdayref03_Shell.mono _ _)
   | (with_reducible exact quote_C.mono _ _)
   | (with_reducible exact LeO.refl _)
   | (with_reducible exact LeO.none _)
   | (with_reducible refine LeO.ite ?_ ?_)
   | (with_reducible refine LeO.bind ?_ (fun _ => ?_))
   | exact ih0 _ _
   | exact domesdaylaw03_awake.mono _
   | exact domesdayref03_C.mono _ _
   | exact domesdayref03_Shell.mono _ _
   | exact quote_C.mono _ _
   | exact LeO.none _
   | refine LeO.ite ?_ ?_
   | refine LeO.bind ?_ (fun _ => ?_)
set_option maxHeartbeats 8000000 in
set_option maxRecDepth 100000 in
theorem domesdaylaw03_QuoteReads.calls (k : Nat) (a0 : ByteArray) (r : Bool) (w : World) (h : domesdaylaw03_QuoteReads.f k a0 = some r) (HE : Env w) :
  Calls Tryd.prog 6 #[.string a0] w fun e w' => e = .returned (.bool r) ∧ Below w.heap.size w w' := by
 have HEE := Aside0.mk HE
 clear HE
 have HB := Aside0.mk (Below.refl w.heap.size w)
 have H : ((domesdaylaw03_awake.f k).bind fun t189 => (if t189 = true then (domesdaylaw03_QuoteReads.j0 k a0 (decide ((a0.size : Int) > 200))) else (domesdaylaw03_QuoteReads.j0 k a0 true))) = some r := h
 clear h
 have HC2 := Aside0.mk H
 clear H
 go_enter Tryd.func6, Tryd.ntmps6
 go_upto_region 1 with (fail)
 go_cut [17] (fun v17 wc => ∃ (kq : Nat) (x17_1 : Bool), v17 = .bool x17_1 ∧ Aside0 (domesdaylaw03_QuoteReads.j0 kq a0 x17_1 = some r) ∧ Aside0 (kq ≤ k) ∧ Aside0 (Below w.heap.size w wc))
 case first =>
  have H := HC2.out
  clear HC2
  replace H := Option.bind_eq_some_iff.mp H
  obtain ⟨t189, A30, H⟩ := H
  replace H : (if t189 = true then (domesdaylaw03_QuoteReads.j0 k a0 (decide ((a0.size : Int) > 200))) else (domesdaylaw03_QuoteReads.j0 k a0 true)) = some r := H
  have A3 := Aside0.mk A30
  clear A30
  by_cases c4 : t189 = true
  ·subst c4
   have H1 : (domesdaylaw03_QuoteReads.j0 k a0 (decide ((a0.size : Int) > 200))) = some r := by rw [if_pos rfl] at H; exact H
   clear H
   have H := H1
   clear H1
   have H' := Aside0.mk H
   clear H
   go_wp2_with (first | ((with_reducible refine gate_callee (f := 8) rfl ?_); refine goesL_ (some 11) rfl rfl Tryd.func8 (by kernel_rfl) rfl #[] rfl (by (try simp only [List.map_toArray, List.map_cons, List.map_nil]); first | done | rfl | (simp only [List.length_drop, List.length_take]; rfl)) ?_; (with_reducible refine (domesdaylaw03_awake.calls k  true _ A3.out (Env.below HEE.out (by repeat (first | (with_reducible first | exact HB.out | apply below_alloc | apply pw_below_drewN | apply below_drew1) | exact HB.out)))).mono ?_); rintro e w5 ⟨rfl, hb⟩; refine ⟨_, rfl, ?_⟩; have n0_ := Aside0.mk (below_step (by repeat (first | (with_reducible first | exact HB.out | apply below_alloc | apply pw_below_drewN | apply below_drew1) | exact HB.out)) hb); clear HB; have HB := n0_; clear n0_; (try clear hb); (try clear hb2); (try clear hk); (try clear hi)))
   go_meet
   case rel => exact ⟨_, (decide ((a0.size : Int) > 200)), (by first | rfl | (simp; done) | (simp [*]; done)), H', ⟨by first | omega | exact Nat.le_refl _⟩, ⟨by repeat (first | (with_reducible first | exact HB.out | apply below_alloc | apply pw_below_drewN | apply below_drew1) | exact HB.out)⟩⟩
  ·replace c4 := Bool.eq_false_iff.mpr c4
   subst c4
   have H1 : (domesdaylaw03_QuoteReads.j0 k a0 true) = some r := by rw [if_neg (show ¬ (false = true) by decide)] at H; exact H
   clear H
   have H := H1
   clear H1
   have H' := Aside0.mk H
   clear H
   go_wp2_with (first | ((with_reducible refine gate_callee (f := 8) rfl ?_); refine goesL_ (some 11) rfl rfl Tryd.func8 (by kernel_rfl) rfl #[] rfl (by (try simp only [List.map_toArray, List.map_cons, List.map_nil]); first | done | rfl | (simp only [List.length_drop, List.length_take]; rfl)) ?_; (with_reducible refine (domesdaylaw03_awake.calls k  false _ A3.out (Env.below HEE.out (by repeat (first | (with_reducible first | exact HB.out | apply below_alloc | apply pw_below_drewN | apply below_drew1) | exact HB.out)))).mono ?_); rintro e w6 ⟨rfl, hb⟩; refine ⟨_, rfl, ?_⟩; have n0_ := Aside0.mk (below_step (by repeat (first | (with_reducible first | exact HB.out | apply below_alloc | apply pw_below_drewN | apply below_drew1) | exact HB.out)) hb); clear HB; have HB := n0_; clear n0_; (try clear hb); (try clear hb2); (try clear hk); (try clear hi)))
   go_meet
   case rel => exact ⟨_, (true), (by first | rfl | (simp; done) | (simp [*]; done)), H', ⟨by first | omega | exact Nat.le_refl _⟩, ⟨by repeat (first | (with_reducible first | exact HB.out | apply below_alloc | apply pw_below_drewN | apply below_drew1) | exact HB.out)⟩⟩
 case rest =>
  clear HC2
  (try clear p2); (try clear c4); (try clear c6)
  obtain ⟨kq, x17_1, rfl, HA, HJ1, HB⟩ := hcut
  cases kq with
  | zero => exact absurd HA.out (by simp [domesdaylaw03_QuoteReads.j0])
  | succ kj1 =>
   have H := HA.out
   clear HA
   simp only [domesdaylaw03_QuoteReads.j0] at H
   by_cases c7 : x17_1 = true
   ·subst c7
    have H1 : ((domesdaylaw03_awake.f kj1).bind fun t190 => (some t190)) = some r := by rw [if_pos rfl] at H; exact H
    clear H
    have H := H1
    clear H1
    replace H := Option.bind_eq_some_iff.mp H
    obtain ⟨t190, A80, H⟩ := H
    replace H : (some t190) = some r := H
    have A8 := Aside0.mk A80
    clear A80
    obtain rfl := Option.some.inj H
    go_wp2_with (first | ((with_reducible refine gate_callee (f := 8) rfl ?_); refine goesL_ (some 18) rfl rfl Tryd.func8 (by kernel_rfl) rfl #[] rfl (by (try simp only [List.map_toArray, List.map_cons, List.map_nil]); first | done | rfl | (simp only [List.length_drop, List.length_take]; rfl)) ?_; (with_reducible refine (domesdaylaw03_awake.calls kj1  t190 _ A8.out (Env.below HEE.out (by repeat (first | (with_reducible first | exact HB.out | apply below_alloc | apply pw_below_drewN | apply below_drew1) | exact HB.out)))).mono ?_); rintro e w9 ⟨rfl, hb⟩; refine ⟨_, rfl, ?_⟩; have n0_ := Aside0.mk (below_step (by repeat (first | (with_reducible first | exact HB.out | apply below_alloc | apply pw_below_drewN | apply below_drew1) | exact HB.out)) hb); clear HB; have HB := n0_; clear n0_; (try clear hb); (try clear hb2); (try clear hk); (try clear hi)))
    go_ret
    exact ⟨by first | rfl | (simp [errW_none, errW_some] <;> rfl) | (simp [*, errW_none, errW_some] <;> rfl), by repeat (first | (with_reducible first | exact HB.out | apply below_alloc | apply pw_below_drewN | apply below_drew1) | exact HB.out)⟩
   ·replace c7 := Bool.eq_false_iff.mpr c7
    subst c7
    have H1 : ((quote_Shell.f a0).bind fun bt191 => ((domesdayref03_Shell.f kj1 a0).bind fun bt193 => ((quote_C.f kj1 a0).bind fun bt195 => ((domesdayref03_C.f kj1 a0).bind fun bt197 => (if bt191.1.toList = bt193.1.toList then (if (bt191.2 == bt193.2) = true then (if bt195.1.toList = bt197.1.toList then (some (bt195.2 == bt197.2)) else (none)) else (none)) else (none)))))) = some r := by rw [if_neg (show ¬ (false = true) by decide)] at H; exact H
    clear H
    have H := H1
    clear H1
    replace H := Option.bind_eq_some_iff.mp H
    obtain ⟨⟨t191, t192⟩, A100, H⟩ := H
    replace H : ((domesdayref03_Shell.f kj1 a0).bind fun bt193 => ((quote_C.f kj1 a0).bind fun bt195 => ((domesdayref03_C.f kj1 a0).bind fun bt197 => (if t191.toList = bt193.1.toList then (if (t192 == bt193.2) = true then (if bt195.1.toList = bt197.1.toList then (some (bt195.2 == bt197.2)) else (none)) else (none)) else (none))))) = some r := H
    have A10 := Aside0.mk A100
    clear A100
    replace H := Option.bind_eq_some_iff.mp H
    obtain ⟨⟨t193, t194⟩, A110, H⟩ := H
    replace H : ((quote_C.f kj1 a0).bind fun bt195 => ((domesdayref03_C.f kj1 a0).bind fun bt197 => (if t191.toList = t193.toList then (if (t192 == t194) = true then (if bt195.1.toList = bt197.1.toList then (some (bt195.2 == bt197.2)) else (none)) else (none)) else (none)))) = some r := H
    have A11 := Aside0.mk A110
    clear A110
    replace H := Option.bind_eq_some_iff.mp H
    obtain ⟨⟨t195, t196⟩, A120, H⟩ := H
    replace H : ((domesdayref03_C.f kj1 a0).bind fun bt197 => (if t191.toList = t193.toList then (if (t192 == t194) = true then (if t195.toList = bt197.1.toList then (some (t196 == bt197.2)) else (none)) else (none)) else (none))) = some r := H
    have A12 := Aside0.mk A120
    clear A120
    replace H := Option.bind_eq_some_iff.mp H
    obtain ⟨⟨t197, t198⟩, A130, H⟩ := H
    replace H : (if t191.toList = t193.toList then (if (t192 == t194) = true then (if t195.toList = t197.toList then (some (t196 == t198)) else (none)) else (none)) else (none)) = some r := H
    have A13 := Aside0.mk A130
    clear A130
    by_cases c14 : t191.toList = t193.toList
    ·rw [if_pos c14] at H
     have c14b0 : (t191.toList == t193.toList) = true := beq_iff_eq.mpr c14
     have c14b1 : (t191.toList != t193.toList) = false := bne_eq_false_iff_eq.mpr c14
     clear c14
     by_cases c15 : (t192 == t194) = true
     ·rw [if_pos c15] at H
      have c15b0 : (t192 == t194) = true := c15
      (try (have c15b1 : decide (t192 = t194) = true := by simpa using c15))
      (try (have c15b2 : (t192 == t194) = true := by simpa using c15))
      clear c15
      by_cases c16 : t195.toList = t197.toList
      ·rw [if_pos c16] at H
       have c16b0 : (t195.toList == t197.toList) = true := beq_iff_eq.mpr c16
       have c16b1 : (t195.toList != t197.toList) = false := bne_eq_false_iff_eq.mpr c16
       clear c16
       obtain rfl := Option.some.inj H
       go_wp2_with (first | ((with_reducible refine gate_callee (f := 12) rfl ?_); refine goesL_ (some 21) rfl rfl Tryd.func12 (by kernel_rfl) rfl #[.string a0] rfl (by (try simp only [List.map_toArray, List.map_cons, List.map_nil]); first | done | rfl | (simp only [List.length_drop, List.length_take]; rfl)) ?_; (with_reducible refine (quote_Shell.calls a0 t191 t192 _ A10.out (Env.below HEE.out (by repeat (first | (with_reducible first | exact HB.out | apply below_alloc | apply pw_below_drewN | apply below_drew1) | exact HB.out)))).mono ?_); rintro e w17 ⟨rfl, hb⟩; refine ⟨_, rfl, ?_⟩; have n0_ := Aside0.mk (below_step (by repeat (first | (with_reducible first | exact HB.out | apply below_alloc | apply pw_below_drewN | apply below_drew1) | exact HB.out)) hb); clear HB; have HB := n0_; clear n0_; (try clear hb); (try clear hb2); (try clear hk); (try clear hi)) | ((with_reducible refine gate_callee (f := 13) rfl ?_); refine goesL_ (some 26) rfl rfl Tryd.func13 (by kernel_rfl) rfl #[.string a0] rfl (by (try simp only [List.map_toArray, List.map_cons, List.map_nil]); first | done | rfl | (simp only [List.length_drop, List.length_take]; rfl)) ?_; (with_reducible refine (domesdayref03_Shell.calls kj1 a0 t193 t194 _ A11.out).mono ?_); rintro e w18 ⟨rfl, hb⟩; refine ⟨_, rfl, ?_⟩; have n0_ := Aside0.mk (below_step (by repeat (first | (with_reducible first | exact HB.out | apply below_alloc | apply pw_below_drewN | apply below_drew1) | exact HB.out)) hb); clear HB; have HB := n0_; clear n0_; (try clear hb); (try clear hb2); (try clear hk); (try clear hi)) | ((with_reducible refine gate_callee (f := 14) rfl ?_); refine goesL_ (some 31) rfl rfl Tryd.func14 (by kernel_rfl) rfl #[.string a0] rfl (by (try simp only [List.map_toArray, List.map_cons, List.map_nil]); first | done | rfl | (simp only [List.length_drop, List.length_take]; rfl)) ?_; (with_reducible refine (quote_C.calls kj1 a0 t195 t196 _ A12.out).mono ?_); rintro e w19 ⟨rfl, hb⟩; refine ⟨_, rfl, ?_⟩; have n0_ := Aside0.mk (below_step (by repeat (first | (with_reducible first | exact HB.out | apply below_alloc | apply pw_below_drewN | apply below_drew1) | exact HB.out)) hb); clear HB; have HB := n0_; clear n0_; (try clear hb); (try clear hb2); (try clear hk); (try clear hi)) | ((with_reducible refine gate_callee (f := 15) rfl ?_); refine goesL_ (some 36) rfl rfl Tryd.func15 (by kernel_rfl) rfl #[.string a0] rfl (by (try simp only [List.map_toArray, List.map_cons, List.map_nil]); first | done | rfl | (simp only [List.length_drop, List.length_take]; rfl)) ?_; (with_reducible refine (domesdayref03_C.calls kj1 a0 t197 t198 _ A13.out).mono ?_); rintro e w20 ⟨rfl, hb⟩; refine ⟨_, rfl, ?_⟩; have n0_ := Aside0.mk (below_step (by repeat (first | (with_reducible first | exact HB.out | apply below_alloc | apply pw_below_drewN | apply below_drew1) | exact HB.out)) hb); clear HB; have HB := n0_; clear n0_; (try clear hb); (try clear hb2); (try clear hk); (try clear hi)))
       go_ret
       exact ⟨by first | rfl | (simp [errW_none, errW_some] <;> rfl) | (simp [*, errW_none, errW_some] <;> rfl), by repeat (first | (with_reducible first | exact HB.out | apply below_alloc | apply pw_below_drewN | apply below_drew1) | exact HB.out)⟩
      ·rw [if_neg c16] at H
       exact absurd H (by simp)
     ·rw [if_neg c15] at H
      exact absurd H (by simp)
    ·rw [if_neg c14] at H
     exact absurd H (by simp)

end Go.Proofs.YtkhbgfnbkdonlaaDoor.QQuo
