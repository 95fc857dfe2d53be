/- What package date's Right and Time, and the reference's functions, come to, as plain integers. -/
import Derived.Test.YtngcecmfgjgigaaDateMath
import Derived.Test.YtngcecmfgjgigaaQDateRightx8
import Derived.Test.YtngcecmfgjgigaaMDateRight
namespace Go.Proofs.Ytngcecmfgjgigaa.MDateRight
open Go.RowKit Go.Proofs.Ytngcecmfgjgigaa.QDateRight Go.Proofs.Ytngcecmfgjgigaa.DateMath Go.Proofs.YtngcecmfgjgigaaW.PrintWords Go.Proofs.YtngcecmfgjgigaaW.PrintLast Go.Proofs.YtngcecmfgjgigaaW.PrintMore
set_option linter.unusedVariables false
set_option linter.unusedSimpArgs false

theorem refLeap_eq (y : Int) : domesdayref04_Leap.f y = some (decide (lp y = 1)) := by
  unfold domesdayref04_Leap.f lp
  have h4 := tmod_zero y 4
  have h100 := tmod_zero y 100
  have h400 := tmod_zero y 400
  by_cases c : y % 400 = 0
  · have a : y % 4 = 0 := by omega
    have b : y % 100 = 0 := by omega
    simp [h400.2 c, a, b, c]
  · rw [if_neg (fun h => c (h400.1 h))]
    by_cases a : y % 4 = 0
    · rw [if_pos (h4.2 a)]
      by_cases b : y % 100 = 0
      · simp [h100.2 b, a, b, c]
      · have : ¬ Int.tmod y 100 = 0 := fun h => b (h100.1 h)
        simp [this, a, b]
    · rw [if_neg (fun h => a (h4.1 h))]; simp [a]
theorem refDays_eq (k : Nat) (y m : Int) : domesdayref04_Days.f (k + 1) y m = some (dim y m) := by
  have hl := lp_01 y
  unfold domesdayref04_Days.f
  simp only [domesdayref04_Days.j0, refLeap_eq, Option.bind_some]
  by_cases h : 1 ≤ m ∧ m ≤ 12
  · obtain rfl | rfl | rfl | rfl | rfl | rfl | rfl | rfl | rfl | rfl | rfl | rfl : m = 1 ∨ m = 2 ∨ m = 3 ∨ m = 4 ∨ m = 5 ∨ m = 6 ∨ m = 7 ∨ m = 8 ∨ m = 9 ∨ m = 10 ∨ m = 11 ∨ m = 12 := by omega
    all_goals (rcases hl with hl | hl <;> simp [dim, hl, rd])
  · rw [show dim y m = 0 from by unfold dim; rw [if_neg (by omega), if_neg (by omega), if_neg h]]
    by_cases h1 : m < 1
    · rw [if_pos h1]; simp
    · rw [if_neg h1, show decide (m > 12) = true from by simp; omega]; simp
theorem refDays_ev (y m : Int) : Ev (fun k => domesdayref04_Days.f k y m) (dim y m) := ⟨1, fun k hk => by
  obtain ⟨k, rfl⟩ : ∃ n, k = n + 1 := ⟨k - 1, by omega⟩
  exact refDays_eq k y m⟩
theorem awake_ev : Ev (fun k => domesdaylaw04_awake.f k) true := by
  obtain ⟨Y, M, D, h, mi, s, wd, yd, hd, hev⟩ := of_ev 0 3600 (by omega) (by omega)
  have hh : h = 1 := by have := hd.hour; rw [this]; decide
  unfold domesdaylaw04_awake.f
  refine Ev.bind hev ?_
  simp only [hh, if_true]
  refine Ev.bind (days_ev 2000 2) ?_
  exact Ev.congr (fun k => by simp [dim, lp]) (Ev.now _)
end Go.Proofs.Ytngcecmfgjgigaa.MDateRight
