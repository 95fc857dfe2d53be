/- The calendar in plain integers: a time has just one date (plain arithmetic, no program in sight). -/
import Derived.WalkKit
namespace Go.Proofs.YtbbnjpnpgcjelaaDoor.DateMath
open Go.RowKit
set_option linter.unusedVariables false
set_option linter.unusedSimpArgs false

/-- Is the year one of 366 days? -/
def lp (y : Int) : Int := if y % 4 = 0 ∧ (y % 100 ≠ 0 ∨ y % 400 = 0) then 1 else 0
theorem lp_01 (y : Int) : lp y = 0 ∨ lp y = 1 := by unfold lp; split <;> simp
theorem lp_shift (y c : Int) : lp (400 * c + y) = lp y := by
  have h4 : (400 * c + y) % 4 = y % 4 := by omega
  have h100 : (400 * c + y) % 100 = y % 100 := by omega
  have h400 : (400 * c + y) % 400 = y % 400 := by omega
  unfold lp; rw [h4, h100, h400]
def before (y : Int) : Int := if y = 0 then 0 else 365 * y + (y - 1) / 4 - (y - 1) / 100 + 1
def dim (y m : Int) : Int := if m = 2 then 28 + lp y else if m = 4 ∨ m = 6 ∨ m = 9 ∨ m = 11 then 30 else if 1 ≤ m ∧ m ≤ 12 then 31 else 0
def cum (y m : Int) : Int :=
  if m ≤ 1 then 0 else if m = 2 then 31 else if m = 3 then 59 + lp y else if m = 4 then 90 + lp y else if m = 5 then 120 + lp y else if m = 6 then 151 + lp y
  else if m = 7 then 181 + lp y else if m = 8 then 212 + lp y else if m = 9 then 243 + lp y else if m = 10 then 273 + lp y else if m = 11 then 304 + lp y else if m = 12 then 334 + lp y else 365 + lp y

theorem before_succ (y : Int) (h0 : 0 ≤ y) (h1 : y ≤ 399) : before (y + 1) = before y + 365 + lp y := by
  unfold before lp
  by_cases e : y = 0
  · subst e; decide
  · rw [if_neg (by omega), if_neg e]
    split <;> omega
theorem before_mono (a b : Int) (h0 : 0 ≤ a) (h : a ≤ b) : before a ≤ before b := by
  unfold before
  by_cases e : a = 0
  · rw [if_pos e]; split <;> omega
  · rw [if_neg e, if_neg (by omega)]; omega
theorem before_lo (y : Int) (h0 : 0 ≤ y) : 365 * y ≤ before y := by unfold before; split <;> omega
theorem before_400 : before 400 = 146097 := by decide
theorem before_zero : before 0 = 0 := by decide
theorem cum_succ (y m : Int) (h0 : 1 ≤ m) (h1 : m ≤ 12) : cum y (m + 1) = cum y m + dim y m := by
  obtain rfl | rfl | rfl | rfl | rfl | rfl | rfl | rfl | rfl | rfl | rfl | rfl : m = 1 ∨ m = 2 ∨ m = 3 ∨ m = 4 ∨ m = 5 ∨ m = 6 ∨ m = 7 ∨ m = 8 ∨ m = 9 ∨ m = 10 ∨ m = 11 ∨ m = 12 := by omega
  all_goals (simp [cum, dim] <;> omega)
theorem cum_mono (y a b : Int) (h0 : 1 ≤ a) (h : a ≤ b) (h1 : b ≤ 13) : cum y a ≤ cum y b := by
  have hl := lp_01 y
  unfold cum
  repeat' split
  all_goals omega
theorem cum_13 (y : Int) : cum y 13 = 365 + lp y := by simp [cum]
theorem cum_one (y : Int) : cum y 1 = 0 := by simp [cum]
theorem dim_pos (y m : Int) (h0 : 1 ≤ m) (h1 : m ≤ 12) : 28 ≤ dim y m ∧ dim y m ≤ 31 := by
  have hl := lp_01 y
  unfold dim
  repeat' split
  all_goals omega
theorem dim_shift (y c m : Int) : dim (400 * c + y) m = dim y m := by unfold dim; rw [lp_shift]
theorem cum_shift (y c m : Int) : cum (400 * c + y) m = cum y m := by unfold cum; rw [lp_shift]

/-- Day 'day' (from 1970) and second 'sec' have this date. -/
structure Is (day sec Y M D h mi s wd yd : Int) : Prop where
  year : ∃ c y : Int, Y = 400 * c + y ∧ 0 ≤ y ∧ y ≤ 399 ∧ day + 719528 = 146097 * c + before y + yd - 1 ∧ 1 ≤ yd ∧ yd ≤ 365 + lp y
  month : 1 ≤ M ∧ M ≤ 12
  inMonth : 1 ≤ D ∧ D ≤ dim Y M ∧ yd = cum Y M + D
  hour : h = sec / 3600
  minute : mi = sec / 60 % 60
  second : s = sec % 60
  week : wd = (day + 4) % 7

theorem year_one (c1 y1 d1 c2 y2 d2 : Int) (h1 : 0 ≤ y1) (h1' : y1 ≤ 399) (h2 : 0 ≤ y2) (h2' : y2 ≤ 399)
    (g1 : 1 ≤ d1) (g1' : d1 ≤ 365 + lp y1) (g2 : 1 ≤ d2) (g2' : d2 ≤ 365 + lp y2)
    (h : 146097 * c1 + before y1 + d1 - 1 = 146097 * c2 + before y2 + d2 - 1) : c1 = c2 ∧ y1 = y2 ∧ d1 = d2 := by
  have s1 := before_succ y1 h1 h1'
  have s2 := before_succ y2 h2 h2'
  have m1 := before_mono (y1 + 1) 400 (by omega) (by omega)
  have m2 := before_mono (y2 + 1) 400 (by omega) (by omega)
  have l1 := before_lo y1 h1
  have l2 := before_lo y2 h2
  rw [before_400] at m1 m2
  have hc : c1 = c2 := by omega
  subst hc
  have hy : y1 = y2 := by
    rcases Int.lt_trichotomy y1 y2 with hlt | heq | hgt
    · have := before_mono (y1 + 1) y2 (by omega) (by omega); omega
    · exact heq
    · have := before_mono (y2 + 1) y1 (by omega) (by omega); omega
  subst hy
  exact ⟨rfl, rfl, by omega⟩
theorem month_one (y m1 d1 m2 d2 : Int) (h1 : 1 ≤ m1) (h1' : m1 ≤ 12) (h2 : 1 ≤ m2) (h2' : m2 ≤ 12) (g1 : 1 ≤ d1) (g1' : d1 ≤ dim y m1) (g2 : 1 ≤ d2) (g2' : d2 ≤ dim y m2)
    (h : cum y m1 + d1 = cum y m2 + d2) : m1 = m2 ∧ d1 = d2 := by
  have s1 := cum_succ y m1 h1 h1'
  have s2 := cum_succ y m2 h2 h2'
  have hm : m1 = m2 := by
    rcases Int.lt_trichotomy m1 m2 with hlt | heq | hgt
    · have := cum_mono y (m1 + 1) m2 (by omega) (by omega) (by omega); omega
    · exact heq
    · have := cum_mono y (m2 + 1) m1 (by omega) (by omega) (by omega); omega
  subst hm
  exact ⟨rfl, by omega⟩

/-- A day and a second have one date alone. -/
theorem Is.one {day sec Y M D h mi s wd yd Y' M' D' h' mi' s' wd' yd' : Int} (a : Is day sec Y M D h mi s wd yd) (b : Is day sec Y' M' D' h' mi' s' wd' yd') :
    Y = Y' ∧ M = M' ∧ D = D' ∧ h = h' ∧ mi = mi' ∧ s = s' ∧ wd = wd' ∧ yd = yd' := by
  obtain ⟨c, y, rfl, h1, h2, h3, h4, h5⟩ := a.year
  obtain ⟨c', y', rfl, h1', h2', h3', h4', h5'⟩ := b.year
  obtain ⟨rfl, rfl, rfl⟩ := year_one c y yd c' y' yd' h1 h2 h1' h2' h4 h5 h4' h5' (by omega)
  obtain ⟨m1, m2⟩ := a.month
  obtain ⟨m1', m2'⟩ := b.month
  obtain ⟨d1, d2, d3⟩ := a.inMonth
  obtain ⟨d1', d2', d3'⟩ := b.inMonth
  obtain ⟨rfl, rfl⟩ := month_one _ M D M' D' m1 m2 m1' m2' d1 d2 d1' d2' (by omega)
  exact ⟨rfl, rfl, rfl, a.hour.trans b.hour.symm, a.minute.trans b.minute.symm, a.second.trans b.second.symm, a.week.trans b.week.symm, rfl⟩
/-- 400 years later. -/
theorem Is.later {day sec Y M D h mi s wd yd : Int} (a : Is day sec Y M D h mi s wd yd) (n : Int) : Is (day + 146097 * n) sec (Y + 400 * n) M D h mi s wd yd := by
  obtain ⟨c, y, rfl, h1, h2, h3, h4, h5⟩ := a.year
  obtain ⟨d1, d2, d3⟩ := a.inMonth
  rw [dim_shift] at d2
  rw [cum_shift] at d3
  refine ⟨⟨c + n, y, by omega, h1, h2, by omega, h4, h5⟩, a.month, ⟨d1, ?_, ?_⟩, a.hour, a.minute, a.second, ?_⟩
  · rw [show 400 * c + y + 400 * n = 400 * (c + n) + y from by omega, dim_shift]; exact d2
  · rw [show 400 * c + y + 400 * n = 400 * (c + n) + y from by omega, cum_shift]; exact d3
  · have := a.week; omega

theorem wrap_id (x : Int) (h : -9223372036854775808 ≤ x) (h' : x ≤ 9223372036854775807) : wrap64 x = x := by unfold wrap64; omega
theorem tdiv_nn (x d : Int) (h : 0 ≤ x) : Int.tdiv x d = x / d := Int.tdiv_eq_ediv_of_nonneg h
theorem tmod_nn (x d : Int) (h : 0 ≤ x) : Int.tmod x d = x % d := Int.tmod_eq_emod_of_nonneg h

/-- An offset, cut to a day. -/
def clamp (o : Int) : Int := if o < -86400 then -86400 else if 86400 < o then 86400 else o
theorem clamp_bd (o : Int) : -86400 ≤ clamp o ∧ clamp o ≤ 86400 := by unfold clamp; repeat' split <;> omega
/-- A time's date. -/
def Date (t o Y M D h mi s wd yd : Int) : Prop := Is ((t + clamp o) / 86400) ((t + clamp o) % 86400) Y M D h mi s wd yd
end Go.Proofs.YtbbnjpnpgcjelaaDoor.DateMath
