-- Made by a program of this session.
import Derived.Test.YtngcecmfgjgigaaDoorXWidth
import Derived.Test.YtngcecmfgjgigaaDoorXRefW
import Derived.Test.YtngcecmfgjgigaaDoorQWidthRunesx1
import Derived.Test.YtngcecmfgjgigaaDoorQWidthRunesx0
namespace Go.Proofs.YtngcecmfgjgigaaDoor.QWidthRunes
open Go.RowKit Go.Proofs.YtngcecmfgjgigaaDoorW.PrintWords Go.Proofs.YtngcecmfgjgigaaDoorW.PrintLast Go.Proofs.YtngcecmfgjgigaaDoorW.PrintMore
attribute [local go_sem] max2_int min2_int max_two min_two max_three min_three max_four min_four   -- for this text's walks alone
open Go.Proofs.YtngcecmfgjgigaaDoor.Ext
set_option linter.unusedVariables false
set_option linter.unusedSimpArgs false

-- proved elsewhere: function 7 (domesdaylaw02_awake)

/-! ### domesdaylaw02_WidthRunes: function 3 -/
def domesdaylaw02_WidthRunes.f (k : Nat) (a0 : Int) : Option (Bool) := (domesdaylaw02_awake.f).bind fun t117 => (if t117 = true then ((width_Rune.f k a0).bind fun t118 => ((domesdayref02_Width.f (wrap64 (a0))).bind fun t119 => (some (t118 == t119)))) else (none))
theorem domesdaylaw02_WidthRunes.mono : ∀ a0 k, LeO (domesdaylaw02_WidthRunes.f k a0) (domesdaylaw02_WidthRunes.f (k + 1) a0) := by
  intro a0 k
  unfold domesdaylaw02_WidthRunes.f
  repeat' first
      | (with_reducible exact width_Rune.mono _ _)
      | (with_reducible exact LeO.refl _)
      | (with_reducible exact LeO.none _)
      | (with_reducible refine LeO.ite ?_ ?_)
      | (with_reducible refine LeO.bind ?_ (fun _ => ?_))
      | exact width_Rune.mono _ _
      | exact LeO.none _
      | refine LeO.ite ?_ ?_
      | refine LeO.bind ?_ (fun _ => ?_)
set_option maxHeartbeats 8000000 in
set_option maxRecDepth 100000 in
theorem domesdaylaw02_WidthRunes.calls (k : Nat) (a0 : Int) (r : Bool) (w : World) (h : domesdaylaw02_WidthRunes.f k a0 = some r) (HE : Env w) :
    Calls Tryd.prog 3 #[.int .i32 a0] w fun e w' => e = .returned (.bool r) ∧ Below w.heap.size w w' := by
  have HEE := Aside0.mk HE
  clear HE
  have HB := Aside0.mk (Below.refl w.heap.size w)
  have H : ((domesdaylaw02_awake.f).bind fun t117 => (if t117 = true then ((width_Rune.f k a0).bind fun t118 => ((domesdayref02_Width.f (wrap64 (a0))).bind fun t119 => (some (t118 == t119)))) else (none))) = some r := h
  clear h
  replace H := Option.bind_eq_some_iff.mp H
  obtain ⟨t117, A20, H⟩ := H
  replace H : (if t117 = true then ((width_Rune.f k a0).bind fun t118 => ((domesdayref02_Width.f (wrap64 (a0))).bind fun t119 => (some (t118 == t119)))) else (none)) = some r := H
  have A2 := Aside0.mk A20
  clear A20
  by_cases c3 : t117 = true
  · subst c3
    have H1 : ((width_Rune.f k a0).bind fun t118 => ((domesdayref02_Width.f (wrap64 (a0))).bind fun t119 => (some (t118 == t119)))) = some r := by rw [if_pos rfl] at H; exact H
    clear H
    have H := H1
    clear H1
    replace H := Option.bind_eq_some_iff.mp H
    obtain ⟨t118, A40, H⟩ := H
    replace H : ((domesdayref02_Width.f (wrap64 (a0))).bind fun t119 => (some (t118 == t119))) = some r := H
    have A4 := Aside0.mk A40
    clear A40
    replace H := Option.bind_eq_some_iff.mp H
    obtain ⟨t119, A50, H⟩ := H
    replace H : (some (t118 == t119)) = some r := H
    have A5 := Aside0.mk A50
    clear A50
    obtain rfl := Option.some.inj H
    go_enter Tryd.func3, Tryd.ntmps3
    go_wp2_with (first | ((with_reducible refine gate_callee (f := 7) rfl ?_); refine goesL_ (some 3) rfl rfl Tryd.func7 (by kernel_rfl) rfl #[] rfl (by (try simp only [List.map_toArray, List.map_cons, List.map_nil]); first | done | rfl | (simp only [List.length_drop, List.length_take]; rfl)) ?_; (with_reducible refine (domesdaylaw02_awake.calls  true _ A2.out (Env.below HEE.out (by repeat (first | (with_reducible first | exact HB.out | apply below_alloc | apply pw_below_drewN | apply below_drew1) | exact HB.out)))).mono ?_); rintro e w6 ⟨rfl, hb⟩; refine ⟨_, rfl, ?_⟩; have n0_ := Aside0.mk (below_step (by repeat (first | (with_reducible first | exact HB.out | apply below_alloc | apply pw_below_drewN | apply below_drew1) | exact HB.out)) hb); clear HB; have HB := n0_; clear n0_; (try clear hb); (try clear hb2); (try clear hk); (try clear hi)) | (go_at_call 8; (with_reducible refine (width_Rune.calls k a0 t118 _ A4.out).mono ?_); rintro e w7 ⟨rfl, hb⟩; have n0_ := Aside0.mk (below_step (by repeat (first | (with_reducible first | exact HB.out | apply below_alloc | apply pw_below_drewN | apply below_drew1) | exact HB.out)) hb); clear HB; have HB := n0_; clear n0_; (try clear hb); (try clear hb2); (try clear hk); (try clear hi)) | (go_at_call 9; (with_reducible refine (domesdayref02_Width.calls (wrap64 (a0)) t119 _ A5.out).mono ?_); rintro e w8 ⟨rfl, hb⟩; have n0_ := Aside0.mk (below_step (by repeat (first | (with_reducible first | exact HB.out | apply below_alloc | apply pw_below_drewN | apply below_drew1) | exact HB.out)) hb); clear HB; have HB := n0_; clear n0_; (try clear hb); (try clear hb2); (try clear hk); (try clear hi)))
    go_ret
    exact ⟨by first | rfl | (simp [errW_none, errW_some] <;> rfl) | (simp [*, errW_none, errW_some] <;> rfl), by repeat (first | (with_reducible first | exact HB.out | apply below_alloc | apply pw_below_drewN | apply below_drew1) | exact HB.out)⟩
  · replace c3 := Bool.eq_false_iff.mpr c3
    subst c3
    have H1 : (none) = some r := by rw [if_neg (show ¬ (false = true) by decide)] at H; exact H
    clear H
    have H := H1
    clear H1
    exact absurd H (by simp)

/-- THE ONE PURE STATEMENT of domesdaylaw02_WidthRunes: yours. -/
def domesdaylaw02_WidthRunes.Pure : Prop := ∀ (a0 : Int), (Lit.int .i32 a0).wf = true → ∃ k, domesdaylaw02_WidthRunes.f k a0 = some true

end Go.Proofs.YtngcecmfgjgigaaDoor.QWidthRunes
