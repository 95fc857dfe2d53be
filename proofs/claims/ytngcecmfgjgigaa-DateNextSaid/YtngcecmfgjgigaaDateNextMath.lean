/- The calendar in plain integers, more of it: days from the year 0; the date a second later. -/
import Derived.Test.YtngcecmfgjgigaaDateMath
namespace Go.Proofs.Ytngcecmfgjgigaa.DateMath
open Go.RowKit
set_option linter.unusedVariables false
set_option linter.unusedSimpArgs false

/-! ### days from the year 0 -/
def db (y : Int) : Int := 146097 * (y / 400) + before (y % 400)
theorem lp_mod (y : Int) : lp (y % 400) = lp y := by
  have := lp_shift (y % 400) (y / 400)
  rw [show 400 * (y / 400) + y % 400 = y from by omega] at this
  exact this.symm
theorem db_succ (y : Int) : db (y + 1) = db y + 365 + lp y := by
  unfold db
  have h := before_succ (y % 400) (by omega) (by omega)
  rw [lp_mod] at h
  have b0 := before_zero
  have b4 := before_400
  by_cases e : y % 400 = 399
  · rw [show (y + 1) / 400 = y / 400 + 1 from by omega, show (y + 1) % 400 = 0 from by omega, b0]
    rw [e] at h ⊢
    rw [show (399 : Int) + 1 = 400 from by omega, b4] at h
    omega
  · rw [show (y + 1) / 400 = y / 400 from by omega, show (y + 1) % 400 = y % 400 + 1 from by omega, h]
    omega
theorem before_bd (y : Int) (h : 0 ≤ y) (h' : y ≤ 399) : 0 ≤ before y ∧ before y ≤ 146097 := by
  have := before_mono 0 y (by omega) h
  have := before_mono y 400 h (by omega)
  have b0 := before_zero
  have b4 := before_400
  omega
theorem db_bd (y : Int) : 146097 * (y / 400) ≤ db y ∧ db y ≤ 146097 * (y / 400) + 146097 := by
  have := before_bd (y % 400) (by omega) (by omega)
  unfold db; omega
theorem Is.mk' {day sec Y M D h mi s wd yd : Int} (hy : day + 719528 = db Y + yd - 1) (h1 : 1 ≤ yd) (h2 : yd ≤ 365 + lp Y) (hm : 1 ≤ M ∧ M ≤ 12) (hd : 1 ≤ D ∧ D ≤ dim Y M ∧ yd = cum Y M + D)
    (a : h = sec / 3600) (b : mi = sec / 60 % 60) (c : s = sec % 60) (d : wd = (day + 4) % 7) : Is day sec Y M D h mi s wd yd :=
  ⟨⟨Y / 400, Y % 400, by omega, by omega, by omega, by unfold db at hy; omega, h1, by rw [lp_mod]; exact h2⟩, hm, hd, a, b, c, d⟩
theorem Is.day_eq {day sec Y M D h mi s wd yd : Int} (a : Is day sec Y M D h mi s wd yd) : day + 719528 = db Y + yd - 1 ∧ 1 ≤ yd ∧ yd ≤ 365 + lp Y := by
  obtain ⟨c, y, rfl, h1, h2, h3, h4, h5⟩ := a.year
  unfold db
  rw [show (400 * c + y) / 400 = c from by omega, show (400 * c + y) % 400 = y from by omega, lp_shift]
  exact ⟨by omega, h4, h5⟩


theorem dim_last (Y : Int) : dim Y 12 = 31 := by simp [dim]
/-- A second later. -/
theorem next_second {t o Y M D h mi s wd yd : Int} (a : Date t o Y M D h mi s wd yd) (hs : s < 59) : Date (t + 1) o Y M D h mi (s + 1) wd yd := by
  obtain ⟨e1, e2, e3⟩ := Is.day_eq a
  have h1 := a.hour; have h2 := a.minute; have h3 := a.second; have h4 := a.week
  unfold Date
  have d : (t + 1 + clamp o) / 86400 = (t + clamp o) / 86400 := by omega
  have q : (t + 1 + clamp o) % 86400 = (t + clamp o) % 86400 + 1 := by omega
  rw [d, q]
  exact Is.mk' e1 e2 e3 a.month a.inMonth (by omega) (by omega) (by omega) h4
theorem next_minute {t o Y M D h mi s wd yd : Int} (a : Date t o Y M D h mi s wd yd) (hs : s = 59) (hm : mi < 59) : Date (t + 1) o Y M D h (mi + 1) 0 wd yd := by
  obtain ⟨e1, e2, e3⟩ := Is.day_eq a
  have h1 := a.hour; have h2 := a.minute; have h3 := a.second; have h4 := a.week
  unfold Date
  have d : (t + 1 + clamp o) / 86400 = (t + clamp o) / 86400 := by omega
  have q : (t + 1 + clamp o) % 86400 = (t + clamp o) % 86400 + 1 := by omega
  rw [d, q]
  exact Is.mk' e1 e2 e3 a.month a.inMonth (by omega) (by omega) (by omega) h4
theorem next_hour {t o Y M D h mi s wd yd : Int} (a : Date t o Y M D h mi s wd yd) (hs : s = 59) (hm : mi = 59) (hh : h < 23) : Date (t + 1) o Y M D (h + 1) 0 0 wd yd := by
  obtain ⟨e1, e2, e3⟩ := Is.day_eq a
  have h1 := a.hour; have h2 := a.minute; have h3 := a.second; have h4 := a.week
  unfold Date
  have d : (t + 1 + clamp o) / 86400 = (t + clamp o) / 86400 := by omega
  have q : (t + 1 + clamp o) % 86400 = (t + clamp o) % 86400 + 1 := by omega
  rw [d, q]
  exact Is.mk' e1 e2 e3 a.month a.inMonth (by omega) (by omega) (by omega) h4
theorem next_day {t o Y M D h mi s wd yd : Int} (a : Date t o Y M D h mi s wd yd) (hs : s = 59) (hm : mi = 59) (hh : ¬ h < 23) (hD : D < dim Y M) : Date (t + 1) o Y M (D + 1) 0 0 0 ((wd + 1) % 7) (yd + 1) := by
  obtain ⟨e1, e2, e3⟩ := Is.day_eq a
  have h1 := a.hour; have h2 := a.minute; have h3 := a.second; have h4 := a.week
  obtain ⟨d1, d2, d3⟩ := a.inMonth
  obtain ⟨m1, m2⟩ := a.month
  have cs := cum_succ Y M m1 m2
  have cm := cum_mono Y (M + 1) 13 (by omega) (by omega) (by omega)
  have c13 := cum_13 Y
  unfold Date
  have d : (t + 1 + clamp o) / 86400 = (t + clamp o) / 86400 + 1 := by omega
  have q : (t + 1 + clamp o) % 86400 = 0 := by omega
  rw [d, q]
  exact Is.mk' (by omega) (by omega) (by omega) a.month ⟨by omega, by omega, by omega⟩ (by omega) (by omega) (by omega) (by omega)
theorem next_month {t o Y M D h mi s wd yd : Int} (a : Date t o Y M D h mi s wd yd) (hs : s = 59) (hm : mi = 59) (hh : ¬ h < 23) (hD : D = dim Y M) (hM : M < 12) : Date (t + 1) o Y (M + 1) 1 0 0 0 ((wd + 1) % 7) (yd + 1) := by
  obtain ⟨e1, e2, e3⟩ := Is.day_eq a
  have h1 := a.hour; have h2 := a.minute; have h3 := a.second; have h4 := a.week
  obtain ⟨d1, d2, d3⟩ := a.inMonth
  obtain ⟨m1, m2⟩ := a.month
  have cs := cum_succ Y M m1 m2
  have cs2 := cum_succ Y (M + 1) (by omega) (by omega)
  have dp := dim_pos Y (M + 1) (by omega) (by omega)
  have cm := cum_mono Y (M + 1 + 1) 13 (by omega) (by omega) (by omega)
  have c13 := cum_13 Y
  unfold Date
  have d : (t + 1 + clamp o) / 86400 = (t + clamp o) / 86400 + 1 := by omega
  have q : (t + 1 + clamp o) % 86400 = 0 := by omega
  rw [d, q]
  exact Is.mk' (by omega) (by omega) (by omega) ⟨by omega, by omega⟩ ⟨by omega, by omega, by omega⟩ (by omega) (by omega) (by omega) (by omega)
theorem next_year {t o Y M D h mi s wd yd : Int} (a : Date t o Y M D h mi s wd yd) (hs : s = 59) (hm : mi = 59) (hh : ¬ h < 23) (hD : D = dim Y M) (hM : M = 12) : Date (t + 1) o (Y + 1) 1 1 0 0 0 ((wd + 1) % 7) 1 := by
  obtain ⟨e1, e2, e3⟩ := Is.day_eq a
  have h1 := a.hour; have h2 := a.minute; have h3 := a.second; have h4 := a.week
  obtain ⟨d1, d2, d3⟩ := a.inMonth
  have cs := cum_succ Y M (by omega) (by omega)
  have c13 := cum_13 Y
  rw [hM, show (12 : Int) + 1 = 13 from by omega] at cs
  rw [hM] at d3 hD
  have hb := db_succ Y
  have hl := lp_01 (Y + 1)
  have dp := dim_pos (Y + 1) 1 (by omega) (by omega)
  have c1 := cum_one (Y + 1)
  unfold Date
  have d : (t + 1 + clamp o) / 86400 = (t + clamp o) / 86400 + 1 := by omega
  have q : (t + 1 + clamp o) % 86400 = 0 := by omega
  rw [d, q]
  exact Is.mk' (by omega) (by omega) (by omega) ⟨by omega, by omega⟩ ⟨by omega, by omega, by omega⟩ (by omega) (by omega) (by omega) (by omega)
theorem date_ranges {t o Y M D h mi s wd yd : Int} (g0 : -9223372036854775808 ≤ t) (g1 : t ≤ 9223372036854775807) (a : Date t o Y M D h mi s wd yd) :
    -300000000000 ≤ Y ∧ Y ≤ 300000000000 ∧ 1 ≤ M ∧ M ≤ 12 ∧ 1 ≤ D ∧ D ≤ dim Y M ∧ D ≤ 31 ∧ 0 ≤ h ∧ h < 24 ∧ 0 ≤ mi ∧ mi < 60 ∧ 0 ≤ s ∧ s < 60 ∧ 0 ≤ wd ∧ wd < 7 ∧ 1 ≤ yd ∧ yd ≤ 366 := by
  obtain ⟨e1, e2, e3⟩ := Is.day_eq a
  have hcl := clamp_bd o
  have hb := db_bd Y
  obtain ⟨d1, d2, d3⟩ := a.inMonth
  obtain ⟨m1, m2⟩ := a.month
  have dp := dim_pos Y M m1 m2
  have h1 := a.hour; have h2 := a.minute; have h3 := a.second; have h4 := a.week
  have hlp := lp_01 Y
  refine ⟨by omega, by omega, m1, m2, d1, d2, by omega, by omega, by omega, by omega, by omega, by omega, by omega, by omega, by omega, by omega, by omega⟩
end Go.Proofs.Ytngcecmfgjgigaa.DateMath
