/- What the printed functions of package date come to, as plain integers: the date of a time. -/
import Derived.Test.YtbbnjpnpgcjelaaDoorDateMath
import Derived.Test.YtbbnjpnpgcjelaaDoorQStmD
namespace Go.Proofs.YtbbnjpnpgcjelaaDoor.DateEv
open Go.RowKit Go.Proofs.YtbbnjpnpgcjelaaDoor.QStm Go.Proofs.YtbbnjpnpgcjelaaDoor.DateMath Go.Proofs.YtbbnjpnpgcjelaaDoorW.PrintWords Go.Proofs.YtbbnjpnpgcjelaaDoorW.PrintLast Go.Proofs.YtbbnjpnpgcjelaaDoorW.PrintMore
set_option linter.unusedVariables false
set_option linter.unusedSimpArgs false

theorem tmod_zero (x d : Int) : Int.tmod x d = 0 ↔ x % d = 0 := by
  rw [← Int.dvd_iff_tmod_eq_zero, ← Int.dvd_iff_emod_eq_zero]
theorem leap_eq (y : Int) : date_Leap.f y = some (decide (lp y = 1)) := by
  unfold date_Leap.f lp
  have h4 := tmod_zero y 4
  have h100 := tmod_zero y 100
  have h400 := tmod_zero y 400
  by_cases a : y % 4 = 0
  · rw [if_pos (h4.2 a)]
    by_cases b : y % 100 = 0
    · rw [if_pos (h100.2 b)]
      by_cases c : y % 400 = 0
      · simp [h400.2 c, a, b, c]
      · have : ¬ Int.tmod y 400 = 0 := fun h => c (h400.1 h)
        simp [this, a, b, c]
    · rw [if_neg (fun h => b (h100.1 h))]; simp [a, b]
  · rw [if_neg (fun h => a (h4.1 h))]; simp [a]
theorem days_eq (k : Nat) (y m : Int) : date_Days.f (k + 2) y m = some (dim y m) := by
  have hl := lp_01 y
  unfold date_Days.f
  simp only [date_Days.j0, date_Days.j1, leap_eq, Option.bind_some]
  by_cases h : 1 ≤ m ∧ m ≤ 12
  · obtain rfl | rfl | rfl | rfl | rfl | rfl | rfl | rfl | rfl | rfl | rfl | rfl : m = 1 ∨ m = 2 ∨ m = 3 ∨ m = 4 ∨ m = 5 ∨ m = 6 ∨ m = 7 ∨ m = 8 ∨ m = 9 ∨ m = 10 ∨ m = 11 ∨ m = 12 := by omega
    all_goals (rcases hl with hl | hl <;> simp [dim, hl])
  · rw [show dim y m = 0 from by unfold dim; rw [if_neg (by omega), if_neg (by omega), if_neg h]]
    have e : ∀ c : Int, 1 ≤ c → c ≤ 12 → (m == c) = false := fun c h1 h2 => by rw [beq_eq_false_iff_ne]; omega
    have e' : ∀ c : Int, 1 ≤ c → c ≤ 12 → ¬ m = c := fun c h1 h2 => by omega
    simp [e, e']
theorem days_ev (y m : Int) : Ev (fun k => date_Days.f k y m) (dim y m) := ⟨2, fun k hk => by
  obtain ⟨k, rfl⟩ : ∃ n, k = n + 2 := ⟨k - 2, by omega⟩
  exact days_eq k y m⟩
theorem floor_eq (a d : Int) (hd : 0 < d) (hd' : d ≤ 1000000) (h : -9223372036854775808 ≤ a) (h' : a ≤ 9223372036854775807) : date_floor.f a d = some (a / d, a % d) := by
  unfold date_floor.f
  rw [if_neg (by omega)]
  have e1 := Int.tdiv_eq_ediv (a := a) (b := d)
  have e2 := Int.tmod_eq_emod (a := a) (b := d)
  have e3 := Int.sign_eq_one_of_pos hd
  have e4 : (d.natAbs : Int) = d := by omega
  have r1 := Int.emod_nonneg a (show d ≠ 0 by omega)
  have r2 := Int.emod_lt_of_pos a hd
  have r3 := Int.emod_add_mul_ediv a d
  rw [e3] at e1
  by_cases g : 0 ≤ a ∨ d ∣ a
  · rw [if_pos g] at e1 e2
    replace e2 : Int.tmod a d = a % d := by omega
    have q1 : -9223372036854775808 ≤ a / d ∧ a / d ≤ 9223372036854775807 := by
      rcases Int.lt_or_le a 0 with ha | ha
      · have : a / d < 0 := Int.ediv_neg_of_neg_of_pos ha hd
        have : a ≤ a / d := by
          have : a / d * (d - 1) ≤ 0 := Int.mul_nonpos_of_nonpos_of_nonneg (by omega) (by omega)
          have e : d * (a / d) = a / d * (d - 1) + a / d := by rw [Int.mul_sub, Int.mul_one, Int.mul_comm d]; omega
          rcases g with g | g
          · omega
          · have := Int.emod_eq_zero_of_dvd g; omega
        omega
      · have := Int.ediv_nonneg ha (show 0 ≤ d by omega)
        have := Int.ediv_le_self d ha
        omega
    rw [e1, e2, if_neg (by omega)]
    simp only [Int.add_zero]
    rw [wrap_id _ q1.1 q1.2]
  · rw [if_neg g] at e1 e2
    rw [e4] at e2
    have ha : a < 0 := by
      rcases Int.lt_or_le a 0 with ha | ha
      · exact ha
      · exact absurd (Or.inl ha) g
    have hne : a % d ≠ 0 := fun h0 => g (Or.inr (Int.dvd_of_emod_eq_zero h0))
    have q0 : a / d < 0 := Int.ediv_neg_of_neg_of_pos ha hd
    have q1 : a ≤ a / d := by
      have q2 : a / d * (d - 1) ≤ 0 := Int.mul_nonpos_of_nonpos_of_nonneg (by omega) (by omega)
      have e : d * (a / d) = a / d * (d - 1) + a / d := by rw [Int.mul_sub, Int.mul_one, Int.mul_comm d]; omega
      by_cases hd1 : d = 1
      · subst hd1; omega
      · have q3 : a / d * (d - 1) ≤ -1 * (d - 1) := Int.mul_le_mul_of_nonneg_right (by omega) (by omega)
        omega
    rw [e1, e2, if_pos (by omega)]
    rw [wrap_id (a / d + 1) (by omega) (by omega), wrap_id _ (by omega) (by omega), wrap_id _ (by omega) (by omega)]
    congr 2 <;> omega
theorem clamp_eq (o : Int) : mn (mx o (-86400)) 86400 = clamp o := by unfold mn mx clamp; repeat' split <;> omega
theorem split_eq (t o : Int) (h : -9223372036854775808 ≤ t) (h' : t ≤ 9223372036854775807) : date_split.f t o = some ((t + clamp o) / 86400, (t + clamp o) % 86400) := by
  have hc := clamp_bd o
  unfold date_split.f
  rw [floor_eq t 86400 (by omega) (by omega) h h']
  simp only [Option.bind_some]
  rw [clamp_eq, wrap_id _ (by omega) (by omega), floor_eq _ 86400 (by omega) (by omega) (by omega) (by omega)]
  simp only [Option.bind_some]
  rw [wrap_id _ (by omega) (by omega)]
  congr 2 <;> omega
theorem before_eq (y : Int) (h : 0 ≤ y) (h' : y ≤ 400) : date_before.f y = some (before y) := by
  unfold date_before.f before
  by_cases e : y = 0
  · rw [if_pos e, if_pos e]
  · rw [if_neg e, if_neg e, wrap_id (y - 1) (by omega) (by omega), tdiv_nn _ _ (by omega), tdiv_nn _ _ (by omega)]
    rw [wrap_id (365 * y) (by omega) (by omega), wrap_id ((y - 1) / 4) (by omega) (by omega), wrap_id ((y - 1) / 100) (by omega) (by omega)]
    rw [wrap_id (365 * y + (y - 1) / 4) (by omega) (by omega), wrap_id (365 * y + (y - 1) / 4 - (y - 1) / 100) (by omega) (by omega), wrap_id _ (by omega) (by omega)]

/-- The months' loop. -/
theorem months_ev (day sec y Y yd : Int) (hd : -200000000000000 ≤ day) (hd' : day ≤ 200000000000000) (hs : 0 ≤ sec) (hs' : sec < 86400) (h1 : 1 ≤ yd) (h2 : yd ≤ 365 + lp y) (n : Nat) :
    ∀ M D : Int, 1 ≤ M → M ≤ 12 → (12 - M).toNat = n → 1 ≤ D → yd = cum y M + D →
    ∃ M' D' : Int, 1 ≤ M' ∧ M' ≤ 12 ∧ 1 ≤ D' ∧ D' ≤ dim y M' ∧ yd = cum y M' + D' ∧
      Ev (fun k => date_Of.l1 k day sec y Y M D 0 0 0 0 yd) (Y, M', D', sec / 3600, sec / 60 % 60, sec % 60, (day + 4) % 7, yd) := by
  have hlp := lp_01 y
  induction n with
  | zero =>
    intro M D m1 m2 hm d1 e
    have hM : M = 12 := by omega
    have hle : D ≤ dim y M := by
      have c := cum_succ y 12 (by omega) (by omega)
      have c13 : cum y (12 + 1) = 365 + lp y := cum_13 y
      subst hM; omega
    refine ⟨M, D, m1, m2, d1, hle, e, ?_⟩
    refine Ev.step (fun k => by simp only [date_Of.l1]; rfl) ?_
    refine Ev.bind (days_ev y M) ?_
    simp only [if_neg (show ¬ D > dim y M by omega)]
    rw [wrap_id (day + 4) (by omega) (by omega), floor_eq _ 7 (by omega) (by omega) (by omega) (by omega)]
    simp only [Option.bind_some]
    rw [tdiv_nn _ _ hs, tdiv_nn _ _ hs, wrap_id (sec / 3600) (by omega) (by omega), wrap_id (sec / 60) (by omega) (by omega), tmod_nn _ _ (by omega), tmod_nn _ _ hs]
    exact Ev.now _
  | succ n ih =>
    intro M D m1 m2 hm d1 e
    have hdim := dim_pos y M m1 m2
    have hcm := cum_mono y M 13 m1 (by omega) (by omega)
    have hc0 := cum_mono y 1 M (by omega) m1 (by omega)
    have c1 := cum_one y
    by_cases hle : D ≤ dim y M
    · refine ⟨M, D, m1, m2, d1, hle, e, ?_⟩
      refine Ev.step (fun k => by simp only [date_Of.l1]; rfl) ?_
      refine Ev.bind (days_ev y M) ?_
      simp only [if_neg (show ¬ D > dim y M by omega)]
      rw [wrap_id (day + 4) (by omega) (by omega), floor_eq _ 7 (by omega) (by omega) (by omega) (by omega)]
      simp only [Option.bind_some]
      rw [tdiv_nn _ _ hs, tdiv_nn _ _ hs, wrap_id (sec / 3600) (by omega) (by omega), wrap_id (sec / 60) (by omega) (by omega), tmod_nn _ _ (by omega), tmod_nn _ _ hs]
      exact Ev.now _
    · have cs := cum_succ y M m1 m2
      obtain ⟨M', D', a1, a2, a3, a4, a5, a6⟩ := ih (M + 1) (D - dim y M) (by omega) (by omega) (by omega) (by omega) (by omega)
      refine ⟨M', D', a1, a2, a3, a4, a5, ?_⟩
      refine Ev.step (fun k => by simp only [date_Of.l1]; rfl) ?_
      refine Ev.bind (days_ev y M) ?_
      simp only [if_pos (show D > dim y M by omega)]
      refine Ev.bind (days_ev y M) ?_
      rw [wrap_id (M + 1) (by omega) (by omega), wrap_id (D - dim y M) (by omega) (by omega)]
      exact a6
/-- The years' loop. -/
theorem years_ev (day sec c x : Int) (hd : -200000000000000 ≤ day) (hd' : day ≤ 200000000000000) (hs : 0 ≤ sec) (hs' : sec < 86400) (hc : day + 719528 = 146097 * c + x) (hx : 0 ≤ x) (hx' : x < 146097) (n : Nat) :
    ∀ y : Int, 0 ≤ y → y ≤ 399 → y.toNat = n → x < before (y + 1) →
    ∃ Y M D h mi s wd yd : Int, Is day sec Y M D h mi s wd yd ∧ Ev (fun k => date_Of.l0 k day sec c x y) (Y, M, D, h, mi, s, wd, yd) := by
  induction n with
  | zero =>
    intro y y1 y2 hn hb
    obtain rfl : y = 0 := by omega
    have bs := before_succ 0 (by omega) (by omega)
    have b0 := before_zero
    obtain ⟨M, D, a1, a2, a3, a4, a5, a6⟩ := months_ev day sec 0 (400 * c + 0) (x + 1) hd hd' hs hs' (by omega) (by omega) _ 1 (x + 1) (by omega) (by omega) rfl (by omega) (by rw [cum_one]; omega)
    refine ⟨400 * c + 0, M, D, sec / 3600, sec / 60 % 60, sec % 60, (day + 4) % 7, x + 1, ⟨⟨c, 0, rfl, by omega, by omega, by omega, by omega, by omega⟩, ⟨a1, a2⟩, ⟨a3, by rw [dim_shift]; exact a4, by rw [cum_shift]; exact a5⟩, rfl, rfl, rfl, rfl⟩, ?_⟩
    refine Ev.step (fun k => by simp only [date_Of.l0]; rfl) ?_
    rw [before_eq 0 (by omega) (by omega)]
    simp only [Option.bind_some, b0]
    simp only [if_neg (show ¬ (0 : Int) > x by omega)]
    rw [wrap_id (c * 400) (by omega) (by omega), wrap_id (c * 400 + 0) (by omega) (by omega), wrap_id (x - 0) (by omega) (by omega), wrap_id (x - 0 + 1) (by omega) (by omega)]
    rw [show c * 400 + 0 = 400 * c + 0 from by omega, show x - 0 + 1 = x + 1 from by omega]
    exact a6
  | succ n ih =>
    intro y y1 y2 hn hb
    have bs := before_succ y y1 y2
    have bm := before_mono 0 y (by omega) y1
    have bm' := before_mono y 400 y1 (by omega)
    have b0 := before_zero
    have b4 := before_400
    by_cases hgt : before y > x
    · obtain ⟨Y, M, D, h, mi, s, wd, yd, his, hev⟩ := ih (y - 1) (by omega) (by omega) (by omega) (by rw [show y - 1 + 1 = y from by omega]; omega)
      refine ⟨Y, M, D, h, mi, s, wd, yd, his, ?_⟩
      refine Ev.step (fun k => by simp only [date_Of.l0]; rfl) ?_
      rw [before_eq y (by omega) (by omega)]
      simp only [Option.bind_some]
      simp only [if_pos hgt]
      rw [wrap_id (y - 1) (by omega) (by omega)]
      exact hev
    · obtain ⟨M, D, a1, a2, a3, a4, a5, a6⟩ := months_ev day sec y (400 * c + y) (x - before y + 1) hd hd' hs hs' (by omega) (by omega) _ 1 (x - before y + 1) (by omega) (by omega) rfl (by omega) (by rw [cum_one]; omega)
      refine ⟨400 * c + y, M, D, sec / 3600, sec / 60 % 60, sec % 60, (day + 4) % 7, x - before y + 1, ⟨⟨c, y, rfl, by omega, by omega, by omega, by omega, by omega⟩, ⟨a1, a2⟩, ⟨a3, by rw [dim_shift]; exact a4, by rw [cum_shift]; exact a5⟩, rfl, rfl, rfl, rfl⟩, ?_⟩
      refine Ev.step (fun k => by simp only [date_Of.l0]; rfl) ?_
      rw [before_eq y (by omega) (by omega)]
      simp only [Option.bind_some]
      simp only [if_neg hgt]
      rw [wrap_id (c * 400) (by omega) (by omega), wrap_id (c * 400 + y) (by omega) (by omega), wrap_id (x - before y) (by omega) (by omega), wrap_id (x - before y + 1) (by omega) (by omega)]
      rw [show c * 400 + y = 400 * c + y from by omega]
      exact a6
theorem of_ev (t o : Int) (g0 : -9223372036854775808 ≤ t) (g1 : t ≤ 9223372036854775807) :
    ∃ Y M D h mi s wd yd : Int, Date t o Y M D h mi s wd yd ∧ Ev (fun k => date_Of.f k t o) (Y, M, D, h, mi, s, wd, yd) := by
  have hcl := clamp_bd o
  have hday : -200000000000000 ≤ (t + clamp o) / 86400 ∧ (t + clamp o) / 86400 ≤ 200000000000000 := by omega
  have hsec : 0 ≤ (t + clamp o) % 86400 ∧ (t + clamp o) % 86400 < 86400 := by omega
  have hst : ∀ x : Int, 0 ≤ x → x < 146097 → 0 ≤ mn (x / 365) 399 ∧ mn (x / 365) 399 ≤ 399 ∧ x < before (mn (x / 365) 399 + 1) := by
    intro x x0 x1
    unfold mn
    split
    · have b4 := before_400
      refine ⟨by omega, by omega, ?_⟩
      show _ < before 400
      omega
    · refine ⟨by omega, by omega, ?_⟩
      have := before_lo (x / 365 + 1) (by omega)
      omega
  unfold Date date_Of.f
  rw [split_eq t o g0 g1]
  simp only [Option.bind_some]
  revert hday hsec
  generalize (t + clamp o) / 86400 = day
  generalize (t + clamp o) % 86400 = sec
  intro hday hsec
  have hx : 0 ≤ (day + 719528) % 146097 ∧ (day + 719528) % 146097 < 146097 := by omega
  have hs := hst _ hx.1 hx.2
  obtain ⟨Y, M, D, h, mi, s, wd, yd, his, hev⟩ := years_ev day sec ((day + 719528) / 146097) ((day + 719528) % 146097) hday.1 hday.2 hsec.1 hsec.2 (by omega) hx.1 hx.2 _ _ hs.1 hs.2.1 rfl hs.2.2
  refine ⟨Y, M, D, h, mi, s, wd, yd, his, ?_⟩
  rw [wrap_id (day + 719528) (by omega) (by omega), floor_eq _ 146097 (by omega) (by omega) (by omega) (by omega)]
  simp only [Option.bind_some]
  rw [tdiv_nn _ _ hx.1, wrap_id ((day + 719528) % 146097 / 365) (by omega) (by omega)]
  exact hev
end Go.Proofs.YtbbnjpnpgcjelaaDoor.DateEv
