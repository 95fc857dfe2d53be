/- P4.1: 400 years later it is the same day of the week, and date, but for the year (times of 2^61 either way). No condition beside the law's own. -/
import Derived.Test.YtngcecmfgjgigaaQDateCyclesx3
import Derived.Test.YtngcecmfgjgigaaMDateCycles
import Derived.OpenShut
namespace Go.Proofs.Ytngcecmfgjgigaa.Pure
open Go.RowKit Go.Proofs.Ytngcecmfgjgigaa.QDateCycles Go.Proofs.Ytngcecmfgjgigaa.MDateCycles Go.Proofs.Ytngcecmfgjgigaa.DateMath Go.Proofs.YtngcecmfgjgigaaW.PrintWords Go.Proofs.YtngcecmfgjgigaaW.PrintLast

theorem cycles_awake : Ev (fun k => domesdaylaw04_awake.f k) true := by
  obtain ⟨Y, M, D, h, mi, s, wd, yd, hd, hev⟩ := of_ev 0 3600 (by omega) (by omega)
  have hh : h = 1 := by have := hd.hour; rw [this]; decide
  unfold domesdaylaw04_awake.f
  refine Ev.bind hev ?_
  simp only [hh, if_true]
  refine Ev.bind (days_ev 2000 2) ?_
  exact Ev.congr (fun k => by simp [dim, lp]) (Ev.now _)
theorem cycles_true (a0 a1 a2 : Int) (b2 : -128 ≤ a2 ∧ a2 ≤ 127) (h1 : -2305843009213693952 ≤ a0) (h2 : a0 ≤ 2305843009213693952) :
    Ev (fun k => domesdaylaw04_DateCycles.j0 k a0 a1 a2 false) true := by
  obtain ⟨Y, M, D, h, mi, s, wd, yd, hd, hev⟩ := of_ev a0 a1 (by omega) (by omega)
  obtain ⟨Y', M', D', h', mi', s', wd', yd', hd', hev'⟩ := of_ev (a0 + a2 * 12622780800) a1 (by omega) (by omega)
  have hl := Is.later hd a2
  have hcl := clamp_bd a1
  unfold DateMath.Date at hd'
  rw [show (a0 + a2 * 12622780800 + clamp a1) / 86400 = (a0 + clamp a1) / 86400 + 146097 * a2 from by omega, show (a0 + a2 * 12622780800 + clamp a1) % 86400 = (a0 + clamp a1) % 86400 from by omega] at hd'
  obtain ⟨e1, e2, e3, e4, e5, e6, e7, e8⟩ := Is.one hd' hl
  obtain ⟨c, y, hY, y1, y2, y3, y4, y5⟩ := hd.year
  have hb := before_mono 0 y (by omega) y1
  have hb' := before_mono y 400 y1 (by omega)
  have b0 := before_zero
  have b4 := before_400
  have hlp := lp_01 y
  refine Ev.step (fun k => by simp only [domesdaylaw04_DateCycles.j0]; rfl) ?_
  simp only [Bool.false_eq_true, if_false]
  rw [wrap_id a2 (by omega) (by omega), wrap_id (a2 * 12622780800) (by omega) (by omega), wrap_id (a0 + a2 * 12622780800) (by omega) (by omega)]
  refine Ev.bind hev' ?_
  refine Ev.bind hev ?_
  unfold domesdayref04_Shift.f
  simp only [Option.bind_some]
  rw [wrap_id (400 * a2) (by omega) (by omega), wrap_id (Y + 400 * a2) (by omega) (by omega), e1, e2, e3, e4, e5, e6, e7, e8]
  exact Ev.congr (fun k => by simp) (Ev.now _)
theorem DateCycles : domesdaylaw04_DateCycles.Pure := by
  intro a0 a1 a2 w0 w1 w2
  have b0 := Go.bounds_i64 w0
  have b2 := Go.bounds_i8 w2
  have hout : Ev (fun k => domesdaylaw04_DateCycles.j0 k a0 a1 a2 true) true := by
    refine Ev.step (fun k => by simp only [domesdaylaw04_DateCycles.j0]; rfl) ?_
    simp only [if_true]
    exact Ev.bind cycles_awake (Ev.now _)
  refine Ev.rounds ?_
  unfold domesdaylaw04_DateCycles.f
  refine Ev.bind cycles_awake ?_
  simp only [if_true]
  by_cases h1 : a0 > 2305843009213693952
  · simp only [if_pos h1]; exact hout
  · simp only [if_neg h1]
    by_cases h2 : a0 < -2305843009213693952
    · simp only [decide_eq_true h2]; exact hout
    · simp only [decide_eq_false h2]; exact cycles_true a0 a1 a2 b2 (by omega) (by omega)
end Go.Proofs.Ytngcecmfgjgigaa.Pure
