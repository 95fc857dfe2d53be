-- Made by a program of this session.
import Derived.Test.YtekcgjpmlkngjaaDoorQDigitsRoundsx0
import Derived.Test.YtekcgjpmlkngjaaDoorQDigitsRoundsx1
namespace Go.Proofs.YtekcgjpmlkngjaaDoor.QDigitsRounds
open Go.RowKit Go.Proofs.YtekcgjpmlkngjaaDoorW.PrintWords Go.Proofs.YtekcgjpmlkngjaaDoorW.PrintLast Go.Proofs.YtekcgjpmlkngjaaDoorW.PrintMore
attribute [local go_sem] max2_int min2_int max_two min_two max_three min_three max_four min_four   -- for this text's walks alone
open Go.Proofs.YtekcgjpmlkngjaaDoor.Ext
set_option linter.unusedVariables false
set_option linter.unusedSimpArgs false

/-! ### domesdayref01_Percent: function 13 -/
mutual
def domesdayref01_Percent.j0 : Nat → Int → Int → Bool → Option (Int)
  | 0, _, _, _ => none
  | k + 1, x0, x1, x14 => if x14 = true then (some 0) else (domesdayref01_Percent.l0 k x0 0 0 (IntKind.u64.wrap (x1)) 0)
def domesdayref01_Percent.l0 : Nat → Int → Int → Int → Int → Int → Option (Int)
  | 0, _, _, _, _, _ => none
  | k + 1, x0, x5, x6, x7, x8 => if x8 < 100 then (if x7 = 0 then (none) else (if (IntKind.u64.wrap (x6 + (Int.tmod (IntKind.u64.wrap (x0)) x7))) ≥ x7 then (domesdayref01_Percent.j2 k x0 (IntKind.u64.wrap ((IntKind.u64.wrap (x5 + (IntKind.u64.wrap (Int.tdiv (IntKind.u64.wrap (x0)) x7)))) + 1)) (IntKind.u64.wrap ((IntKind.u64.wrap (x6 + (Int.tmod (IntKind.u64.wrap (x0)) x7))) - x7)) x7 x8) else (domesdayref01_Percent.j2 k x0 (IntKind.u64.wrap (x5 + (IntKind.u64.wrap (Int.tdiv (IntKind.u64.wrap (x0)) x7)))) (IntKind.u64.wrap (x6 + (Int.tmod (IntKind.u64.wrap (x0)) x7))) x7 x8))) else (if x6 > 0 then (some (wrap64 (mn (IntKind.u64.wrap (x5 + 1)) 9223372036854775807))) else (some (wrap64 (mn x5 9223372036854775807))))
def domesdayref01_Percent.j2 : Nat → Int → Int → Int → Int → Int → Option (Int)
  | 0, _, _, _, _, _ => none
  | k + 1, x0, x5, x6, x7, x8 => if x5 > 9223372036854775807 then (some 9223372036854775807) else (domesdayref01_Percent.l0 k x0 x5 x6 x7 (wrap64 (x8 + 1)))
end
def domesdayref01_Percent.f (k : Nat) (a0 : Int) (a1 : Int) : Option (Int) := if a0 < 1 then (domesdayref01_Percent.j0 k a0 a1 true) else (domesdayref01_Percent.j0 k a0 a1 (decide (a1 < 1)))
theorem domesdayref01_Percent.mono_l : ∀ k, (∀ y0 y1 y2, LeO (domesdayref01_Percent.j0 k y0 y1 y2) (domesdayref01_Percent.j0 (k + 1) y0 y1 y2)) ∧ (∀ y0 y1 y2 y3 y4, LeO (domesdayref01_Percent.l0 k y0 y1 y2 y3 y4) (domesdayref01_Percent.l0 (k + 1) y0 y1 y2 y3 y4)) ∧ (∀ y0 y1 y2 y3 y4, LeO (domesdayref01_Percent.j2 k y0 y1 y2 y3 y4) (domesdayref01_Percent.j2 (k + 1) y0 y1 y2 y3 y4))
  | 0 => ⟨fun _ _ _ r h => by simp [domesdayref01_Percent.j0] at h, fun _ _ _ _ _ r h => by simp [domesdayref01_Percent.l0] at h, fun _ _ _ _ _ r h => by simp [domesdayref01_Percent.j2] at h⟩
  | k + 1 => by
    obtain ⟨ih0, ih1, ih2⟩ := domesdayref01_Percent.mono_l k
    refine ⟨?_, ?_, ?_⟩
    · intro y0 y1 y2
      unfold domesdayref01_Percent.j0
      repeat' first
      | (with_reducible exact ih0 _ _ _)
      | (with_reducible exact ih1 _ _ _ _ _)
      | (with_reducible exact ih2 _ _ _ _ _)
      | (with_reducible exact LeO.refl _)
      | (with_reducible exact LeO.none _)
      | (with_reducible refine LeO.ite ?_ ?_)
      | (with_reducible refine LeO.bind ?_ (fun _ => ?_))
      | exact ih0 _ _ _
      | exact ih1 _ _ _ _ _
      | exact ih2 _ _ _ _ _
      | exact LeO.none _
      | refine LeO.ite ?_ ?_
      | refine LeO.bind ?_ (fun _ => ?_)
    · intro y0 y1 y2 y3 y4
      unfold domesdayref01_Percent.l0
      repeat' first
      | (with_reducible exact ih0 _ _ _)
      | (with_reducible exact ih1 _ _ _ _ _)
      | (with_reducible exact ih2 _ _ _ _ _)
      | (with_reducible exact LeO.refl _)
      | (with_reducible exact LeO.none _)
      | (with_reducible refine LeO.ite ?_ ?_)
      | (with_reducible refine LeO.bind ?_ (fun _ => ?_))
      | exact ih0 _ _ _
      | exact ih1 _ _ _ _ _
      | exact ih2 _ _ _ _ _
      | exact LeO.none _
      | refine LeO.ite ?_ ?_
      | refine LeO.bind ?_ (fun _ => ?_)
    · intro y0 y1 y2 y3 y4
      unfold domesdayref01_Percent.j2
      repeat' first
      | (with_reducible exact ih0 _ _ _)
      | (with_reducible exact ih1 _ _ _ _ _)
      | (with_reducible exact ih2 _ _ _ _ _)
      | (with_reducible exact LeO.refl _)
      | (with_reducible exact LeO.none _)
      | (with_reducible refine LeO.ite ?_ ?_)
      | (with_reducible refine LeO.bind ?_ (fun _ => ?_))
      | exact ih0 _ _ _
      | exact ih1 _ _ _ _ _
      | exact ih2 _ _ _ _ _
      | exact LeO.none _
      | refine LeO.ite ?_ ?_
      | refine LeO.bind ?_ (fun _ => ?_)
theorem domesdayref01_Percent.mono : ∀ a0 a1 k, LeO (domesdayref01_Percent.f k a0 a1) (domesdayref01_Percent.f (k + 1) a0 a1) := by
  intro a0 a1 k
  obtain ⟨ih0, ih1, ih2⟩ := domesdayref01_Percent.mono_l k
  unfold domesdayref01_Percent.f
  repeat' first
      | (with_reducible exact ih0 _ _ _)
      | (with_reducible exact ih1 _ _ _ _ _)
      | (with_reducible exact ih2 _ _ _ _ _)
      | (with_reducible exact LeO.refl _)
      | (with_reducible exact LeO.none _)
      | (with_reducible refine LeO.ite ?_ ?_)
      | (with_reducible refine LeO.bind ?_ (fun _ => ?_))
      | exact ih0 _ _ _
      | exact ih1 _ _ _ _ _
      | exact ih2 _ _ _ _ _
      | exact LeO.none _
      | refine LeO.ite ?_ ?_
      | refine LeO.bind ?_ (fun _ => ?_)
set_option maxHeartbeats 8000000 in
set_option maxRecDepth 100000 in
theorem domesdayref01_Percent.calls (k : Nat) (a0 : Int) (a1 : Int) (r : Int) (w : World) (h : domesdayref01_Percent.f k a0 a1 = some r) :
    Calls Tryd.prog 13 #[.int .i64 a0, .int .i64 a1] w fun e w' => e = .returned (.int .i64 r) ∧ Below w.heap.size w w' := by
  have HB := Aside0.mk (Below.refl w.heap.size w)
  have H : (if a0 < 1 then (domesdayref01_Percent.j0 k a0 a1 true) else (domesdayref01_Percent.j0 k a0 a1 (decide (a1 < 1)))) = some r := h
  clear h
  have HC3 := Aside0.mk H
  clear H
  go_enter Tryd.func13, Tryd.ntmps13
  go_upto_region 1 with (fail)
  go_cut [14] (fun v14 wc => ∃ (kq : Nat) (x14_2 : Bool), v14 = .bool x14_2 ∧ Aside0 (domesdayref01_Percent.j0 kq a0 a1 x14_2 = some r) ∧ Aside0 (kq ≤ k) ∧ Aside0 (Below w.heap.size w wc))
  case first =>
    have H := HC3.out
    clear HC3
    by_cases c4 : a0 < 1
    · rw [if_pos c4] at H
      have c4b0 : decide (a0 < 1) = true := decide_eq_true c4
      clear c4
      (first | rw [c4b0] | (simp only [i64_w, i32_w]; rw [c4b0]) | skip)
      have H' := Aside0.mk H
      clear H
      go_wp2
      go_meet
      case rel => exact ⟨_, (true), (by first | rfl | (simp; done) | (simp [*]; done)), H', ⟨by first | omega | exact Nat.le_refl _⟩, ⟨by repeat (first | (with_reducible first | exact HB.out | apply below_alloc | apply pw_below_drewN | apply below_drew1) | exact HB.out)⟩⟩
    · rw [if_neg c4] at H
      have c4b0 : decide (a0 < 1) = false := decide_eq_false c4
      clear c4
      (first | rw [c4b0] | (simp only [i64_w, i32_w]; rw [c4b0]) | skip)
      have H' := Aside0.mk H
      clear H
      go_wp2
      go_meet
      case rel => exact ⟨_, (decide (a1 < 1)), (by first | rfl | (simp; done) | (simp [*]; done)), H', ⟨by first | omega | exact Nat.le_refl _⟩, ⟨by repeat (first | (with_reducible first | exact HB.out | apply below_alloc | apply pw_below_drewN | apply below_drew1) | exact HB.out)⟩⟩
  case rest =>
    clear HC3
    try clear c1
    try clear p2
    try clear c4
    try clear c4b0
    obtain ⟨kq, x14_2, rfl, HA, HJ2, HB⟩ := hcut
    cases kq with
    | zero => exact absurd HA.out (by simp [domesdayref01_Percent.j0])
    | succ kj2 =>
      have H := HA.out
      clear HA
      simp only [domesdayref01_Percent.j0] at H
      by_cases c5 : x14_2 = true
      · subst c5
        have H1 : (some 0) = some r := by rw [if_pos rfl] at H; exact H
        clear H
        have H := H1
        clear H1
        obtain rfl := Option.some.inj H
        go_wp2
        go_ret
        exact ⟨by first | rfl | (simp [errW_none, errW_some] <;> rfl) | (simp [*, errW_none, errW_some] <;> rfl), by repeat (first | (with_reducible first | exact HB.out | apply below_alloc | apply pw_below_drewN | apply below_drew1) | exact HB.out)⟩
      · replace c5 := Bool.eq_false_iff.mpr c5
        subst c5
        have H1 : (domesdayref01_Percent.l0 kj2 a0 0 0 (IntKind.u64.wrap (a1)) 0) = some r := by rw [if_neg (show ¬ (false = true) by decide)] at H; exact H
        clear H
        have H := H1
        clear H1
        have H' := Aside0.mk H
        clear H
        go_wp2
        go_loopg [5, 6, 8] kj2 (fun kq v5 v6 v8 w' => ∃ (x5_2 : Int) (x6_2 : Int) (x8_2 : Int), v5 = .int .u64 x5_2 ∧ v6 = .int .u64 x6_2 ∧ v8 = .int .i64 x8_2 ∧ Aside0 (domesdayref01_Percent.l0 kq a0 x5_2 x6_2 (IntKind.u64.wrap (a1)) x8_2 = some r) ∧ Aside0 (kq ≤ kj2) ∧ Aside0 (Below w.heap.size w w'))
        case atStart => exact ⟨(0), (0), (0), (by first | rfl | (simp; done) | (simp [*]; done)), (by first | rfl | (simp; done) | (simp [*]; done)), (by first | rfl | (simp; done) | (simp [*]; done)), H', ⟨Nat.le_refl _⟩, ⟨by repeat (first | (with_reducible first | exact HB.out | apply below_alloc | apply pw_below_drewN | apply below_drew1) | exact HB.out)⟩⟩
        case round =>
          clear H'
          try clear c1
          try clear p2
          try clear c4
          try clear c4b0
          try clear c5
          try clear p2
          obtain ⟨x5_2, x6_2, x8_2, rfl, rfl, rfl, HA, HK2, HB⟩ := hrel
          cases gk with
          | zero => exact absurd HA.out (by simp [domesdayref01_Percent.l0])
          | succ k2 =>
            have H := HA.out
            clear HA
            simp only [domesdayref01_Percent.l0] at H
            by_cases c6 : x8_2 < 100
            · rw [if_pos c6] at H
              have c6b0 : decide (x8_2 < 100) = true := decide_eq_true c6
              clear c6
              by_cases c7 : (IntKind.u64.wrap (a1)) = 0
              · rw [if_pos c7] at H
                exact absurd H (by simp)
              · rw [if_neg c7] at H
                have c7b0 : ((IntKind.u64.wrap (a1)) == 0) = false := beq_eq_false_iff_ne.mpr c7
                have c7b1 : ((IntKind.u64.wrap (a1)) != 0) = true := bne_iff_ne.mpr c7
                have HC8 := Aside0.mk H
                clear H
                go_upto_if 35 with (fail)
                go_cut [5, 6] (fun v5 v6 wc => ∃ (kq : Nat) (x5_7 : Int) (x6_7 : Int), v5 = .int .u64 x5_7 ∧ v6 = .int .u64 x6_7 ∧ Aside0 (domesdayref01_Percent.j2 kq a0 x5_7 x6_7 (IntKind.u64.wrap (a1)) x8_2 = some r) ∧ Aside0 (kq ≤ k2) ∧ Aside0 (Below w.heap.size w wc))
                case first =>
                  have H := HC8.out
                  clear HC8
                  by_cases c9 : (IntKind.u64.wrap (x6_2 + (Int.tmod (IntKind.u64.wrap (a0)) (IntKind.u64.wrap (a1))))) ≥ (IntKind.u64.wrap (a1))
                  · rw [if_pos c9] at H
                    have c9b0 : decide ((IntKind.u64.wrap (a1)) ≤ (IntKind.u64.wrap (x6_2 + (Int.tmod (IntKind.u64.wrap (a0)) (IntKind.u64.wrap (a1)))))) = true := decide_eq_true c9
                    clear c9
                    (first | rw [c9b0] | (simp only [i64_w, i32_w]; rw [c9b0]) | skip)
                    have H' := Aside0.mk H
                    clear H
                    go_wp2
                    go_meet
                    case rel => exact ⟨_, (IntKind.u64.wrap ((IntKind.u64.wrap (x5_2 + (IntKind.u64.wrap (Int.tdiv (IntKind.u64.wrap (a0)) (IntKind.u64.wrap (a1)))))) + 1)), (IntKind.u64.wrap ((IntKind.u64.wrap (x6_2 + (Int.tmod (IntKind.u64.wrap (a0)) (IntKind.u64.wrap (a1))))) - (IntKind.u64.wrap (a1)))), (by first | rfl | (simp; done) | (simp [*]; done)), (by first | rfl | (simp; done) | (simp [*]; done)), H', ⟨by have := HJ2.out; have := HK2.out; first | omega | exact Nat.le_refl _⟩, ⟨by repeat (first | (with_reducible first | exact HB.out | apply below_alloc | apply pw_below_drewN | apply below_drew1) | exact HB.out)⟩⟩
                  · rw [if_neg c9] at H
                    have c9b0 : decide ((IntKind.u64.wrap (a1)) ≤ (IntKind.u64.wrap (x6_2 + (Int.tmod (IntKind.u64.wrap (a0)) (IntKind.u64.wrap (a1)))))) = false := decide_eq_false c9
                    clear c9
                    (first | rw [c9b0] | (simp only [i64_w, i32_w]; rw [c9b0]) | skip)
                    have H' := Aside0.mk H
                    clear H
                    go_wp2
                    go_meet
                    case rel => exact ⟨_, (IntKind.u64.wrap (x5_2 + (IntKind.u64.wrap (Int.tdiv (IntKind.u64.wrap (a0)) (IntKind.u64.wrap (a1)))))), (IntKind.u64.wrap (x6_2 + (Int.tmod (IntKind.u64.wrap (a0)) (IntKind.u64.wrap (a1))))), (by first | rfl | (simp; done) | (simp [*]; done)), (by first | rfl | (simp; done) | (simp [*]; done)), H', ⟨by have := HJ2.out; have := HK2.out; first | omega | exact Nat.le_refl _⟩, ⟨by repeat (first | (with_reducible first | exact HB.out | apply below_alloc | apply pw_below_drewN | apply below_drew1) | exact HB.out)⟩⟩
                case rest =>
                  clear HC8
                  try clear c1
                  try clear p2
                  try clear c4
                  try clear c4b0
                  try clear c5
                  try clear c6
                  try clear c6b0
                  try clear c7
                  try clear c7b0
                  try clear c7b1
                  try clear c9
                  try clear c9b0
                  try clear p2
                  obtain ⟨kq, x5_7, x6_7, rfl, rfl, HA, HJ7, HB⟩ := hcut
                  cases kq with
                  | zero => exact absurd HA.out (by simp [domesdayref01_Percent.j2])
                  | succ kj7 =>
                    have H := HA.out
                    clear HA
                    simp only [domesdayref01_Percent.j2] at H
                    by_cases c10 : x5_7 > 9223372036854775807
                    · rw [if_pos c10] at H
                      have c10b0 : decide (9223372036854775807 < x5_7) = true := decide_eq_true c10
                      clear c10
                      obtain rfl := Option.some.inj H
                      go_wp2
                      go_ret
                      exact ⟨by first | rfl | (simp [errW_none, errW_some] <;> rfl) | (simp [*, errW_none, errW_some] <;> rfl), by repeat (first | (with_reducible first | exact HB.out | apply below_alloc | apply pw_below_drewN | apply below_drew1) | exact HB.out)⟩
                    · rw [if_neg c10] at H
                      have c10b0 : decide (9223372036854775807 < x5_7) = false := decide_eq_false c10
                      clear c10
                      have H' := Aside0.mk H
                      clear H
                      go_wp2
                      go_roundg kj7
                      case measure => have := HJ2.out; have := HK2.out; have := HJ7.out; omega
                      case rel => exact ⟨(x5_7), (x6_7), (wrap64 (x8_2 + 1)), (by first | rfl | (simp; done) | (simp [*]; done)), (by first | rfl | (simp; done) | (simp [*]; done)), (by first | rfl | (simp; done) | (simp [*]; done)), H', ⟨by have := HJ2.out; have := HK2.out; have := HJ7.out; omega⟩, ⟨by repeat (first | (with_reducible first | exact HB.out | apply below_alloc | apply pw_below_drewN | apply below_drew1) | exact HB.out)⟩⟩
            · rw [if_neg c6] at H
              have c6b0 : decide (x8_2 < 100) = false := decide_eq_false c6
              clear c6
              by_cases c11 : x6_2 > 0
              · rw [if_pos c11] at H
                have c11b0 : decide (0 < x6_2) = true := decide_eq_true c11
                clear c11
                obtain ⟨ji12, hji12⟩ : ∃ j_ : Int, (mn (IntKind.u64.wrap (x5_2 + 1)) 9223372036854775807) = j_ := ⟨_, rfl⟩
                replace H : (some (wrap64 (ji12))) = some r := by first | (rw [hji12] at H; exact H) | (simp only [hji12] at H ⊢; exact H)
                have hji12_ : (if 9223372036854775807 < (IntKind.u64.wrap (x5_2 + 1)) then 9223372036854775807 else (IntKind.u64.wrap (x5_2 + 1))) = ji12 := hji12
                obtain rfl := Option.some.inj H
                go_wp2
                go_ret
                exact ⟨by first | rfl | (simp [errW_none, errW_some] <;> rfl) | (simp only [← hji12]; first | rfl | (simp [errW_none, errW_some] <;> rfl)) | (simp [*, errW_none, errW_some] <;> rfl), by repeat (first | (with_reducible first | exact HB.out | apply below_alloc | apply pw_below_drewN | apply below_drew1) | exact HB.out)⟩
              · rw [if_neg c11] at H
                have c11b0 : decide (0 < x6_2) = false := decide_eq_false c11
                clear c11
                obtain ⟨ji13, hji13⟩ : ∃ j_ : Int, (mn x5_2 9223372036854775807) = j_ := ⟨_, rfl⟩
                replace H : (some (wrap64 (ji13))) = some r := by first | (rw [hji13] at H; exact H) | (simp only [hji13] at H ⊢; exact H)
                have hji13_ : (if 9223372036854775807 < x5_2 then 9223372036854775807 else x5_2) = ji13 := hji13
                obtain rfl := Option.some.inj H
                go_wp2
                go_ret
                exact ⟨by first | rfl | (simp [errW_none, errW_some] <;> rfl) | (simp only [← hji13]; first | rfl | (simp [errW_none, errW_some] <;> rfl)) | (simp [*, errW_none, errW_some] <;> rfl), by repeat (first | (with_reducible first | exact HB.out | apply below_alloc | apply pw_below_drewN | apply below_drew1) | exact HB.out)⟩

/-! ### domesdaylaw01_DigitsRounds: function 3 -/
def domesdaylaw01_DigitsRounds.j0 : Nat → Int → Int → List Int → Bool → Option (Bool)
  | 0, _, _, _, _ => none
  | k + 1, x0, x1, x2, x13 => if x13 = true then ((domesdaylaw01_awake.f).bind fun t113 => (some t113)) else ((digits_Ceil.f x0 x1).bind fun t114 => ((domesdayref01_Ceil.f k x0 x1).bind fun t115 => (if t114 = t115 then ((digits_Add.f k x2).bind fun t116 => ((domesdayref01_Add.f k x2).bind fun t117 => (if t116 = t117 then ((digits_Percent.f x0 x1).bind fun t118 => ((domesdayref01_Percent.f k x0 x1).bind fun t119 => (some (t118 == t119)))) else (none)))) else (none))))
def domesdaylaw01_DigitsRounds.f (k : Nat) (a0 : Int) (a1 : Int) (l2 : List Int) : Option (Bool) := (domesdaylaw01_awake.f).bind fun t112 => (if t112 = true then (domesdaylaw01_DigitsRounds.j0 k a0 a1 l2 (decide ((l2.length : Int) > 100))) else (domesdaylaw01_DigitsRounds.j0 k a0 a1 l2 true))
theorem domesdaylaw01_DigitsRounds.mono_l : ∀ k, (∀ y0 y1 y2 y3, LeO (domesdaylaw01_DigitsRounds.j0 k y0 y1 y2 y3) (domesdaylaw01_DigitsRounds.j0 (k + 1) y0 y1 y2 y3))
  | 0 => fun _ _ _ _ r h => by simp [domesdaylaw01_DigitsRounds.j0] at h
  | k + 1 => by
    have ih0 := domesdaylaw01_DigitsRounds.mono_l k
    · intro y0 y1 y2 y3
      unfold domesdaylaw01_DigitsRounds.j0
      repeat' first
      | (with_reducible exact ih0 _ _ _ _)
      | (with_reducible exact digits_Add.mono _ _)
      | (with_reducible exact domesdayref01_Add.mono _ _)
      | (with_reducible exact domesdayref01_Ceil.mono _ _ _)
      | (with_reducible exact domesdayref01_Percent.mono _ _ _)
      | (with_reducible exact LeO.refl _)
      | (with_reducible exact LeO.none _)
      | (with_reducible refine LeO.ite ?_ ?_)
      | (with_reducible refine LeO.bind ?_ (fun _ => ?_))
      | exact ih0 _ _ _ _
      | exact digits_Add.mono _ _
      | exact domesdayref01_Add.mono _ _
      | exact domesdayref01_Ceil.mono _ _ _
      | exact domesdayref01_Percent.mono _ _ _
      | exact LeO.none _
      | refine LeO.ite ?_ ?_
      | refine LeO.bind ?_ (fun _ => ?_)
theorem domesdaylaw01_DigitsRounds.mono : ∀ a0 a1 a2 k, LeO (domesdaylaw01_DigitsRounds.f k a0 a1 a2) (domesdaylaw01_DigitsRounds.f (k + 1) a0 a1 a2) := by
  intro a0 a1 a2 k
  have ih0 := domesdaylaw01_DigitsRounds.mono_l k
  unfold domesdaylaw01_DigitsRounds.f
  repeat' first
      | (with_reducible exact ih0 _ _ _ _)
      | (with_reducible exact digits_Add.mono _ _)
      | (with_reducible exact domesdayref01_Add.mono _ _)
      | (with_reducible exact domesdayref01_Ceil.mono _ _ _)
      | (with_reducible exact domesdayref01_Percent.mono _ _ _)
      | (with_reducible exact LeO.refl _)
      | (with_reducible exact LeO.none _)
      | (with_reducible refine LeO.ite ?_ ?_)
      | (with_reducible refine LeO.bind ?_ (fun _ => ?_))
      | exact ih0 _ _ _ _
      | exact digits_Add.mono _ _
      | exact domesdayref01_Add.mono _ _
      | exact domesdayref01_Ceil.mono _ _ _
      | exact domesdayref01_Percent.mono _ _ _
      | exact LeO.none _
      | refine LeO.ite ?_ ?_
      | refine LeO.bind ?_ (fun _ => ?_)
set_option maxHeartbeats 8000000 in
set_option maxRecDepth 100000 in
theorem domesdaylaw01_DigitsRounds.calls (k : Nat) (a0 : Int) (a1 : Int) (A2 : Option Addr) (c2 : Nat) (l2 : List Int) (r : Bool) (w : World) (hr2 : Kd.C (Kd.int .i64) w A2 l2.length l2) (hc2 : l2.length ≤ c2) (h : domesdaylaw01_DigitsRounds.f k a0 a1 l2 = some r) (HE : Env w) :
    Calls Tryd.prog 3 #[.int .i64 a0, .int .i64 a1, .slice A2 l2.length c2] w fun e w' => e = .returned (.bool r) ∧ Below w.heap.size w w' := by
  have HEE := Aside0.mk HE
  clear HE
  have HR2 := Aside0.mk hr2
  have HC2 := Aside0.mk hc2
  clear hr2 hc2
  have HB := Aside0.mk (Below.refl w.heap.size w)
  have H : ((domesdaylaw01_awake.f).bind fun t112 => (if t112 = true then (domesdaylaw01_DigitsRounds.j0 k a0 a1 l2 (decide ((l2.length : Int) > 100))) else (domesdaylaw01_DigitsRounds.j0 k a0 a1 l2 true))) = some r := h
  clear h
  have HC4 := Aside0.mk H
  clear H
  go_enter Tryd.func3, Tryd.ntmps3
  go_upto_region 1 with (fail)
  go_cut [13] (fun v13 wc => ∃ (kq : Nat) (x13_3 : Bool), v13 = .bool x13_3 ∧ Aside0 (domesdaylaw01_DigitsRounds.j0 kq a0 a1 l2 x13_3 = some r) ∧ Aside0 (kq ≤ k) ∧ Aside0 (Below w.heap.size w wc))
  case first =>
    have H := HC4.out
    clear HC4
    replace H := Option.bind_eq_some_iff.mp H
    obtain ⟨t112, A50, H⟩ := H
    replace H : (if t112 = true then (domesdaylaw01_DigitsRounds.j0 k a0 a1 l2 (decide ((l2.length : Int) > 100))) else (domesdaylaw01_DigitsRounds.j0 k a0 a1 l2 true)) = some r := H
    have A5 := Aside0.mk A50
    clear A50
    by_cases c6 : t112 = true
    · subst c6
      have H1 : (domesdaylaw01_DigitsRounds.j0 k a0 a1 l2 (decide ((l2.length : Int) > 100))) = some r := by rw [if_pos rfl] at H; exact H
      clear H
      have H := H1
      clear H1
      have H' := Aside0.mk H
      clear H
      go_wp2_with (first | ((with_reducible refine gate_callee (f := 7) rfl ?_); refine goesL_ (some 7) rfl rfl Tryd.func7 (by kernel_rfl) rfl #[] rfl (by (try simp only [List.map_toArray, List.map_cons, List.map_nil]); first | done | rfl | (simp only [List.length_drop, List.length_take]; rfl)) ?_; (with_reducible refine (domesdaylaw01_awake.calls  true _ A5.out (Env.below HEE.out (by repeat (first | (with_reducible first | exact HB.out | apply below_alloc | apply pw_below_drewN | apply below_drew1) | exact HB.out)))).mono ?_); rintro e w7 ⟨rfl, hb⟩; refine ⟨_, rfl, ?_⟩; have n0_ := Aside0.mk (below_step (by repeat (first | (with_reducible first | exact HB.out | apply below_alloc | apply pw_below_drewN | apply below_drew1) | exact HB.out)) hb); clear HB; have HB := n0_; clear n0_; (try clear hb); (try clear hb2); (try clear hk); (try clear hi)))
      go_meet
      case rel => exact ⟨_, (decide ((l2.length : Int) > 100)), (by first | rfl | (simp; done) | (simp [*]; done)), H', ⟨by first | omega | exact Nat.le_refl _⟩, ⟨by repeat (first | (with_reducible first | exact HB.out | apply below_alloc | apply pw_below_drewN | apply below_drew1) | exact HB.out)⟩⟩
    · replace c6 := Bool.eq_false_iff.mpr c6
      subst c6
      have H1 : (domesdaylaw01_DigitsRounds.j0 k a0 a1 l2 true) = some r := by rw [if_neg (show ¬ (false = true) by decide)] at H; exact H
      clear H
      have H := H1
      clear H1
      have H' := Aside0.mk H
      clear H
      go_wp2_with (first | ((with_reducible refine gate_callee (f := 7) rfl ?_); refine goesL_ (some 7) rfl rfl Tryd.func7 (by kernel_rfl) rfl #[] rfl (by (try simp only [List.map_toArray, List.map_cons, List.map_nil]); first | done | rfl | (simp only [List.length_drop, List.length_take]; rfl)) ?_; (with_reducible refine (domesdaylaw01_awake.calls  false _ A5.out (Env.below HEE.out (by repeat (first | (with_reducible first | exact HB.out | apply below_alloc | apply pw_below_drewN | apply below_drew1) | exact HB.out)))).mono ?_); rintro e w8 ⟨rfl, hb⟩; refine ⟨_, rfl, ?_⟩; have n0_ := Aside0.mk (below_step (by repeat (first | (with_reducible first | exact HB.out | apply below_alloc | apply pw_below_drewN | apply below_drew1) | exact HB.out)) hb); clear HB; have HB := n0_; clear n0_; (try clear hb); (try clear hb2); (try clear hk); (try clear hi)))
      go_meet
      case rel => exact ⟨_, (true), (by first | rfl | (simp; done) | (simp [*]; done)), H', ⟨by first | omega | exact Nat.le_refl _⟩, ⟨by repeat (first | (with_reducible first | exact HB.out | apply below_alloc | apply pw_below_drewN | apply below_drew1) | exact HB.out)⟩⟩
  case rest =>
    clear HC4
    try clear c2
    try clear p2
    try clear c3
    try clear c6
    try clear c7
    obtain ⟨kq, x13_3, rfl, HA, HJ3, HB⟩ := hcut
    cases kq with
    | zero => exact absurd HA.out (by simp [domesdaylaw01_DigitsRounds.j0])
    | succ kj3 =>
      have H := HA.out
      clear HA
      simp only [domesdaylaw01_DigitsRounds.j0] at H
      by_cases c9 : x13_3 = true
      · subst c9
        have H1 : ((domesdaylaw01_awake.f).bind fun t113 => (some t113)) = some r := by rw [if_pos rfl] at H; exact H
        clear H
        have H := H1
        clear H1
        replace H := Option.bind_eq_some_iff.mp H
        obtain ⟨t113, A100, H⟩ := H
        replace H : (some t113) = some r := H
        have A10 := Aside0.mk A100
        clear A100
        obtain rfl := Option.some.inj H
        go_wp2_with (first | ((with_reducible refine gate_callee (f := 7) rfl ?_); refine goesL_ (some 14) rfl rfl Tryd.func7 (by kernel_rfl) rfl #[] rfl (by (try simp only [List.map_toArray, List.map_cons, List.map_nil]); first | done | rfl | (simp only [List.length_drop, List.length_take]; rfl)) ?_; (with_reducible refine (domesdaylaw01_awake.calls  t113 _ A10.out (Env.below HEE.out (by repeat (first | (with_reducible first | exact HB.out | apply below_alloc | apply pw_below_drewN | apply below_drew1) | exact HB.out)))).mono ?_); rintro e w11 ⟨rfl, hb⟩; refine ⟨_, rfl, ?_⟩; have n0_ := Aside0.mk (below_step (by repeat (first | (with_reducible first | exact HB.out | apply below_alloc | apply pw_below_drewN | apply below_drew1) | exact HB.out)) hb); clear HB; have HB := n0_; clear n0_; (try clear hb); (try clear hb2); (try clear hk); (try clear hi)))
        go_ret
        exact ⟨by first | rfl | (simp [errW_none, errW_some] <;> rfl) | (simp [*, errW_none, errW_some] <;> rfl), by repeat (first | (with_reducible first | exact HB.out | apply below_alloc | apply pw_below_drewN | apply below_drew1) | exact HB.out)⟩
      · replace c9 := Bool.eq_false_iff.mpr c9
        subst c9
        have H1 : ((digits_Ceil.f a0 a1).bind fun t114 => ((domesdayref01_Ceil.f kj3 a0 a1).bind fun t115 => (if t114 = t115 then ((digits_Add.f kj3 l2).bind fun t116 => ((domesdayref01_Add.f kj3 l2).bind fun t117 => (if t116 = t117 then ((digits_Percent.f a0 a1).bind fun t118 => ((domesdayref01_Percent.f kj3 a0 a1).bind fun t119 => (some (t118 == t119)))) else (none)))) else (none)))) = some r := by rw [if_neg (show ¬ (false = true) by decide)] at H; exact H
        clear H
        have H := H1
        clear H1
        replace H := Option.bind_eq_some_iff.mp H
        obtain ⟨t114, A120, H⟩ := H
        replace H : ((domesdayref01_Ceil.f kj3 a0 a1).bind fun t115 => (if t114 = t115 then ((digits_Add.f kj3 l2).bind fun t116 => ((domesdayref01_Add.f kj3 l2).bind fun t117 => (if t116 = t117 then ((digits_Percent.f a0 a1).bind fun t118 => ((domesdayref01_Percent.f kj3 a0 a1).bind fun t119 => (some (t118 == t119)))) else (none)))) else (none))) = some r := H
        have A12 := Aside0.mk A120
        clear A120
        replace H := Option.bind_eq_some_iff.mp H
        obtain ⟨t115, A130, H⟩ := H
        replace H : (if t114 = t115 then ((digits_Add.f kj3 l2).bind fun t116 => ((domesdayref01_Add.f kj3 l2).bind fun t117 => (if t116 = t117 then ((digits_Percent.f a0 a1).bind fun t118 => ((domesdayref01_Percent.f kj3 a0 a1).bind fun t119 => (some (t118 == t119)))) else (none)))) else (none)) = some r := H
        have A13 := Aside0.mk A130
        clear A130
        by_cases c14 : t114 = t115
        · rw [if_pos c14] at H
          have c14b0 : (t114 == t115) = true := beq_iff_eq.mpr c14
          have c14b1 : (t114 != t115) = false := bne_eq_false_iff_eq.mpr c14
          clear c14
          replace H := Option.bind_eq_some_iff.mp H
          obtain ⟨t116, A150, H⟩ := H
          replace H : ((domesdayref01_Add.f kj3 l2).bind fun t117 => (if t116 = t117 then ((digits_Percent.f a0 a1).bind fun t118 => ((domesdayref01_Percent.f kj3 a0 a1).bind fun t119 => (some (t118 == t119)))) else (none))) = some r := H
          have A15 := Aside0.mk A150
          clear A150
          replace H := Option.bind_eq_some_iff.mp H
          obtain ⟨t117, A160, H⟩ := H
          replace H : (if t116 = t117 then ((digits_Percent.f a0 a1).bind fun t118 => ((domesdayref01_Percent.f kj3 a0 a1).bind fun t119 => (some (t118 == t119)))) else (none)) = some r := H
          have A16 := Aside0.mk A160
          clear A160
          by_cases c17 : t116 = t117
          · rw [if_pos c17] at H
            have c17b0 : (t116 == t117) = true := beq_iff_eq.mpr c17
            have c17b1 : (t116 != t117) = false := bne_eq_false_iff_eq.mpr c17
            clear c17
            replace H := Option.bind_eq_some_iff.mp H
            obtain ⟨t118, A180, H⟩ := H
            replace H : ((domesdayref01_Percent.f kj3 a0 a1).bind fun t119 => (some (t118 == t119))) = some r := H
            have A18 := Aside0.mk A180
            clear A180
            replace H := Option.bind_eq_some_iff.mp H
            obtain ⟨t119, A190, H⟩ := H
            replace H : (some (t118 == t119)) = some r := H
            have A19 := Aside0.mk A190
            clear A190
            obtain rfl := Option.some.inj H
            go_wp2_with (first | ((with_reducible refine gate_callee (f := 8) rfl ?_); refine goesL_ (some 17) rfl rfl Tryd.func8 (by kernel_rfl) rfl #[.int .i64 a0, .int .i64 a1] rfl (by (try simp only [List.map_toArray, List.map_cons, List.map_nil]); first | done | rfl | (simp only [List.length_drop, List.length_take]; rfl)) ?_; (with_reducible refine (digits_Ceil.calls a0 a1 t114 _ A12.out).mono ?_); rintro e w' ⟨rfl, ⟨nd, rfl⟩⟩; refine ⟨_, rfl, ?_⟩) | ((with_reducible refine gate_callee (f := 9) rfl ?_); refine goesL_ (some 20) rfl rfl Tryd.func9 (by kernel_rfl) rfl #[.int .i64 a0, .int .i64 a1] rfl (by (try simp only [List.map_toArray, List.map_cons, List.map_nil]); first | done | rfl | (simp only [List.length_drop, List.length_take]; rfl)) ?_; (with_reducible refine (domesdayref01_Ceil.calls kj3 a0 a1 t115 _ A13.out).mono ?_); rintro e w' ⟨rfl, ⟨nd, rfl⟩⟩; refine ⟨_, rfl, ?_⟩) | (go_at_call 10; (with_reducible refine (digits_Add.calls kj3 _ _ l2 t116 _ ?side1 ?side2 A15.out).mono ?_); (case side1 => repeat (first | exact (Kd.C_below HR2.out (by repeat (first | (with_reducible first | exact HB.out | apply below_alloc | apply pw_below_drewN | apply below_drew1) | exact HB.out))) | (with_reducible refine Kd.C_alloc ?_ _) | (with_reducible refine Kd.C_drewN ?_ _) | (with_reducible refine Kd.C_drew ?_))); (case side2 => exact HC2.out); rintro e w' ⟨rfl, ⟨nd, rfl⟩⟩) | (go_at_call 11; (with_reducible refine (domesdayref01_Add.calls kj3 _ _ l2 t117 _ ?side1 ?side2 A16.out).mono ?_); (case side1 => repeat (first | exact (Kd.C_below HR2.out (by repeat (first | (with_reducible first | exact HB.out | apply below_alloc | apply pw_below_drewN | apply below_drew1) | exact HB.out))) | (with_reducible refine Kd.C_alloc ?_ _) | (with_reducible refine Kd.C_drewN ?_ _) | (with_reducible refine Kd.C_drew ?_))); (case side2 => exact HC2.out); rintro e w' ⟨rfl, ⟨nd, rfl⟩⟩) | (go_at_call 12; (with_reducible refine (digits_Percent.calls a0 a1 t118 _ A18.out).mono ?_); rintro e w20 ⟨rfl, hb⟩; have n0_ := Aside0.mk (below_step (by repeat (first | (with_reducible first | exact HB.out | apply below_alloc | apply pw_below_drewN | apply below_drew1) | exact HB.out)) hb); clear HB; have HB := n0_; clear n0_; (try clear hb); (try clear hb2); (try clear hk); (try clear hi)) | (go_at_call 13; (with_reducible refine (domesdayref01_Percent.calls kj3 a0 a1 t119 _ A19.out).mono ?_); rintro e w21 ⟨rfl, hb⟩; have n0_ := Aside0.mk (below_step (by repeat (first | (with_reducible first | exact HB.out | apply below_alloc | apply pw_below_drewN | apply below_drew1) | exact HB.out)) hb); clear HB; have HB := n0_; clear n0_; (try clear hb); (try clear hb2); (try clear hk); (try clear hi)))
            go_ret
            exact ⟨by first | rfl | (simp [errW_none, errW_some] <;> rfl) | (simp [*, errW_none, errW_some] <;> rfl), by repeat (first | (with_reducible first | exact HB.out | apply below_alloc | apply pw_below_drewN | apply below_drew1) | exact HB.out)⟩
          · rw [if_neg c17] at H
            exact absurd H (by simp)
        · rw [if_neg c14] at H
          exact absurd H (by simp)

end Go.Proofs.YtekcgjpmlkngjaaDoor.QDigitsRounds
