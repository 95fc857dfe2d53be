/- What package date's Right and Time, and the reference's functions, come to, as plain integers. -/
import Derived.Test.YtbbnjpnpgcjelaaDoorDateMath
import Derived.Test.YtbbnjpnpgcjelaaDoorQStmR
import Derived.Test.YtbbnjpnpgcjelaaDoorDateEv
namespace Go.Proofs.YtbbnjpnpgcjelaaDoor.DateEv
open Go.RowKit Go.Proofs.YtbbnjpnpgcjelaaDoor.QStm Go.Proofs.YtbbnjpnpgcjelaaDoor.DateMath Go.Proofs.YtbbnjpnpgcjelaaDoorW.PrintWords Go.Proofs.YtbbnjpnpgcjelaaDoorW.PrintLast Go.Proofs.YtbbnjpnpgcjelaaDoorW.PrintMore
set_option linter.unusedVariables false
set_option linter.unusedSimpArgs false

theorem refLeap_eq (y : Int) : domesdayref04_Leap.f y = some (decide (lp y = 1)) := by
  unfold domesdayref04_Leap.f lp
  have h4 := tmod_zero y 4
  have h100 := tmod_zero y 100
  have h400 := tmod_zero y 400
  by_cases c : y % 400 = 0
  · have a : y % 4 = 0 := by omega
    have b : y % 100 = 0 := by omega
    simp [h400.2 c, a, b, c]
  · rw [if_neg (fun h => c (h400.1 h))]
    by_cases a : y % 4 = 0
    · rw [if_pos (h4.2 a)]
      by_cases b : y % 100 = 0
      · simp [h100.2 b, a, b, c]
      · have : ¬ Int.tmod y 100 = 0 := fun h => b (h100.1 h)
        simp [this, a, b]
    · rw [if_neg (fun h => a (h4.1 h))]; simp [a]
theorem refDays_eq (k : Nat) (y m : Int) : domesdayref04_Days.f (k + 1) y m = some (dim y m) := by
  have hl := lp_01 y
  unfold domesdayref04_Days.f
  simp only [domesdayref04_Days.j0, refLeap_eq, Option.bind_some]
  by_cases h : 1 ≤ m ∧ m ≤ 12
  · obtain rfl | rfl | rfl | rfl | rfl | rfl | rfl | rfl | rfl | rfl | rfl | rfl : m = 1 ∨ m = 2 ∨ m = 3 ∨ m = 4 ∨ m = 5 ∨ m = 6 ∨ m = 7 ∨ m = 8 ∨ m = 9 ∨ m = 10 ∨ m = 11 ∨ m = 12 := by omega
    all_goals (rcases hl with hl | hl <;> simp [dim, hl, rd])
  · rw [show dim y m = 0 from by unfold dim; rw [if_neg (by omega), if_neg (by omega), if_neg h]]
    by_cases h1 : m < 1
    · rw [if_pos h1]; simp
    · rw [if_neg h1, show decide (m > 12) = true from by simp; omega]; simp
theorem refDays_ev (y m : Int) : Ev (fun k => domesdayref04_Days.f k y m) (dim y m) := ⟨1, fun k hk => by
  obtain ⟨k, rfl⟩ : ∃ n, k = n + 1 := ⟨k - 1, by omega⟩
  exact refDays_eq k y m⟩
/-! ### days from the year 0 -/
def db (y : Int) : Int := 146097 * (y / 400) + before (y % 400)
theorem lp_mod (y : Int) : lp (y % 400) = lp y := by
  have := lp_shift (y % 400) (y / 400)
  rw [show 400 * (y / 400) + y % 400 = y from by omega] at this
  exact this.symm
theorem db_succ (y : Int) : db (y + 1) = db y + 365 + lp y := by
  unfold db
  have h := before_succ (y % 400) (by omega) (by omega)
  rw [lp_mod] at h
  have b0 := before_zero
  have b4 := before_400
  by_cases e : y % 400 = 399
  · rw [show (y + 1) / 400 = y / 400 + 1 from by omega, show (y + 1) % 400 = 0 from by omega, b0]
    rw [e] at h ⊢
    rw [show (399 : Int) + 1 = 400 from by omega, b4] at h
    omega
  · rw [show (y + 1) / 400 = y / 400 from by omega, show (y + 1) % 400 = y % 400 + 1 from by omega, h]
    omega
theorem before_bd (y : Int) (h : 0 ≤ y) (h' : y ≤ 399) : 0 ≤ before y ∧ before y ≤ 146097 := by
  have := before_mono 0 y (by omega) h
  have := before_mono y 400 h (by omega)
  have b0 := before_zero
  have b4 := before_400
  omega
theorem db_bd (y : Int) : 146097 * (y / 400) ≤ db y ∧ db y ≤ 146097 * (y / 400) + 146097 := by
  have := before_bd (y % 400) (by omega) (by omega)
  unfold db; omega
theorem Is.mk' {day sec Y M D h mi s wd yd : Int} (hy : day + 719528 = db Y + yd - 1) (h1 : 1 ≤ yd) (h2 : yd ≤ 365 + lp Y) (hm : 1 ≤ M ∧ M ≤ 12) (hd : 1 ≤ D ∧ D ≤ dim Y M ∧ yd = cum Y M + D)
    (a : h = sec / 3600) (b : mi = sec / 60 % 60) (c : s = sec % 60) (d : wd = (day + 4) % 7) : Is day sec Y M D h mi s wd yd :=
  ⟨⟨Y / 400, Y % 400, by omega, by omega, by omega, by unfold db at hy; omega, h1, by rw [lp_mod]; exact h2⟩, hm, hd, a, b, c, d⟩
theorem Is.day_eq {day sec Y M D h mi s wd yd : Int} (a : Is day sec Y M D h mi s wd yd) : day + 719528 = db Y + yd - 1 ∧ 1 ≤ yd ∧ yd ≤ 365 + lp Y := by
  obtain ⟨c, y, rfl, h1, h2, h3, h4, h5⟩ := a.year
  unfold db
  rw [show (400 * c + y) / 400 = c from by omega, show (400 * c + y) % 400 = y from by omega, lp_shift]
  exact ⟨by omega, h4, h5⟩

/-! ### the reference's Of -/
theorem refYear_eq (y : Int) : domesdayref04_year.f y = some (365 + lp y) := by
  unfold domesdayref04_year.f
  rw [refLeap_eq]
  rcases lp_01 y with h | h <;> simp [h]
theorem refMonths_ev (c sec Y yd wd d0 : Int) (hY : -1000000 ≤ Y ∧ Y ≤ 1000000) (hc : -1000000000 ≤ c ∧ c ≤ 1000000000) (hs : 0 ≤ sec) (hs' : sec < 86400) (h1 : 1 ≤ yd) (h2 : yd ≤ 365 + lp Y) (n : Nat) :
    ∀ M d : Int, 1 ≤ M → M ≤ 12 → (12 - M).toNat = n → 0 ≤ d → yd = cum Y M + d + 1 →
    ∃ M' D' : Int, 1 ≤ M' ∧ M' ≤ 12 ∧ 1 ≤ D' ∧ D' ≤ dim Y M' ∧ yd = cum Y M' + D' ∧
      Ev (fun k => domesdayref04_Of.l2 k c sec d Y M d0 0 0 0 wd yd) (Y + 400 * c, M', D', sec / 3600, sec / 60 % 60, sec % 60, wd, yd) := by
  have hlp := lp_01 Y
  have done : ∀ M d : Int, 1 ≤ M → M ≤ 12 → 0 ≤ d → d < dim Y M → Ev (fun k => domesdayref04_Of.l2 k c sec d Y M d0 0 0 0 wd yd) (Y + 400 * c, M, d + 1, sec / 3600, sec / 60 % 60, sec % 60, wd, yd) := by
    intro M d m1 m2 d1 hlt
    have hdim := dim_pos Y M m1 m2
    refine Ev.step (fun k => by simp only [domesdayref04_Of.l2]; rfl) ?_
    refine Ev.bind (refDays_ev Y M) ?_
    simp only [if_neg (show ¬ d ≥ dim Y M by omega)]
    rw [wrap_id (400 * c) (by omega) (by omega), wrap_id (Y + 400 * c) (by omega) (by omega), wrap_id (d + 1) (by omega) (by omega)]
    rw [tdiv_nn _ _ hs, tdiv_nn _ _ hs, wrap_id (sec / 3600) (by omega) (by omega), wrap_id (sec / 60) (by omega) (by omega), tmod_nn _ _ (by omega), tmod_nn _ _ hs]
    exact Ev.now _
  induction n with
  | zero =>
    intro M d m1 m2 hm d1 e
    have hM : M = 12 := by omega
    have hlt : d < dim Y M := by
      have c := cum_succ Y 12 (by omega) (by omega)
      have c13 : cum Y (12 + 1) = 365 + lp Y := cum_13 Y
      subst hM; omega
    exact ⟨M, d + 1, m1, m2, by omega, by omega, by omega, done M d m1 m2 d1 hlt⟩
  | succ n ih =>
    intro M d m1 m2 hm d1 e
    have hdim := dim_pos Y M m1 m2
    have hc0 := cum_mono Y 1 M (by omega) m1 (by omega)
    have c1 := cum_one Y
    by_cases hlt : d < dim Y M
    · exact ⟨M, d + 1, m1, m2, by omega, by omega, by omega, done M d m1 m2 d1 hlt⟩
    · have cs := cum_succ Y M m1 m2
      obtain ⟨M', D', a1, a2, a3, a4, a5, a6⟩ := ih (M + 1) (d - dim Y M) (by omega) (by omega) (by omega) (by omega) (by omega)
      refine ⟨M', D', a1, a2, a3, a4, a5, ?_⟩
      refine Ev.step (fun k => by simp only [domesdayref04_Of.l2]; rfl) ?_
      refine Ev.bind (refDays_ev Y M) ?_
      simp only [if_pos (show d ≥ dim Y M by omega)]
      refine Ev.bind (refDays_ev Y M) ?_
      rw [wrap_id (M + 1) (by omega) (by omega), wrap_id (d - dim Y M) (by omega) (by omega)]
      exact a6
theorem refUp_ev (c sec wd day0 : Int) (hc : -1000000000 ≤ c ∧ c ≤ 1000000000) (hs : 0 ≤ sec) (hs' : sec < 86400) (n : Nat) :
    ∀ d Y : Int, 0 ≤ d → d.toNat ≤ n → 0 ≤ Y → Y + d ≤ 900000 → day0 + 719528 = db Y + d →
    ∃ Y' M D yd : Int, day0 + 719528 = db Y' + yd - 1 ∧ 1 ≤ yd ∧ yd ≤ 365 + lp Y' ∧ 1 ≤ M ∧ M ≤ 12 ∧ 1 ≤ D ∧ D ≤ dim Y' M ∧ yd = cum Y' M + D ∧
      Ev (fun k => domesdayref04_Of.l1 k c sec d Y 1 1 0 0 0 wd 0) (Y' + 400 * c, M, D, sec / 3600, sec / 60 % 60, sec % 60, wd, yd) := by
  induction n with
  | zero =>
    intro d Y d0 dn y0 yd_ hd
    have hlp := lp_01 Y
    obtain ⟨M, D, a1, a2, a3, a4, a5, a6⟩ := refMonths_ev c sec Y (d + 1) wd 1 (by omega) hc hs hs' (by omega) (by omega) _ 1 d (by omega) (by omega) rfl d0 (by rw [cum_one]; omega)
    refine ⟨Y, M, D, d + 1, by omega, by omega, by omega, a1, a2, a3, a4, a5, ?_⟩
    refine Ev.step (fun k => by simp only [domesdayref04_Of.l1]; rfl) ?_
    rw [refYear_eq]
    simp only [Option.bind_some]
    simp only [if_neg (show ¬ d ≥ 365 + lp Y by omega)]
    rw [wrap_id (d + 1) (by omega) (by omega)]
    exact a6
  | succ n ih =>
    intro d Y d0 dn y0 yd_ hd
    have hlp := lp_01 Y
    by_cases hge : d ≥ 365 + lp Y
    · have hs_ := db_succ Y
      obtain ⟨Y', M, D, yd, b1, b2, b3, b4, b5, b6, b7, b8, b9⟩ := ih (d - (365 + lp Y)) (Y + 1) (by omega) (by omega) (by omega) (by omega) (by omega)
      refine ⟨Y', M, D, yd, b1, b2, b3, b4, b5, b6, b7, b8, ?_⟩
      refine Ev.step (fun k => by simp only [domesdayref04_Of.l1]; rfl) ?_
      rw [refYear_eq]
      simp only [Option.bind_some]
      simp only [if_pos hge]
      rw [wrap_id (d - (365 + lp Y)) (by omega) (by omega), wrap_id (Y + 1) (by omega) (by omega)]
      exact b9
    · obtain ⟨M, D, a1, a2, a3, a4, a5, a6⟩ := refMonths_ev c sec Y (d + 1) wd 1 (by omega) hc hs hs' (by omega) (by omega) _ 1 d (by omega) (by omega) rfl d0 (by rw [cum_one]; omega)
      refine ⟨Y, M, D, d + 1, by omega, by omega, by omega, a1, a2, a3, a4, a5, ?_⟩
      refine Ev.step (fun k => by simp only [domesdayref04_Of.l1]; rfl) ?_
      rw [refYear_eq]
      simp only [Option.bind_some]
      simp only [if_neg hge]
      rw [wrap_id (d + 1) (by omega) (by omega)]
      exact a6
theorem db_1970 : db 1970 = 719528 := by decide
theorem db_1969 : db 1969 = 719163 := by decide
theorem lp_1969 : lp 1969 = 0 := by decide
theorem refDown_ev (c sec wd d : Int) (hc : -1000000000 ≤ c ∧ c ≤ 1000000000) (hs : 0 ≤ sec) (hs' : sec < 86400) (h0 : -1 ≤ d) (h1 : d ≤ 200000) :
    ∃ Y' M D yd : Int, d + 719528 = db Y' + yd - 1 ∧ 1 ≤ yd ∧ yd ≤ 365 + lp Y' ∧ 1 ≤ M ∧ M ≤ 12 ∧ 1 ≤ D ∧ D ≤ dim Y' M ∧ yd = cum Y' M + D ∧
      Ev (fun k => domesdayref04_Of.l0 k c sec d 1970 1 1 0 0 0 wd 0) (Y' + 400 * c, M, D, sec / 3600, sec / 60 % 60, sec % 60, wd, yd) := by
  have e0 := db_1970
  have e9 := db_1969
  have l9 := lp_1969
  by_cases hn : d < 0
  · obtain ⟨Y', M, D, yd, b1, b2, b3, b4, b5, b6, b7, b8, b9⟩ := refUp_ev c sec wd d hc hs hs' _ (d + 365) 1969 (by omega) (Nat.le_refl _) (by omega) (by omega) (by omega)
    refine ⟨Y', M, D, yd, b1, b2, b3, b4, b5, b6, b7, b8, ?_⟩
    refine Ev.step (fun k => by simp only [domesdayref04_Of.l0]; rfl) ?_
    simp only [if_pos hn]
    rw [wrap_id (1970 - 1) (by omega) (by omega), show (1970 : Int) - 1 = 1969 from by omega, refYear_eq, l9]
    simp only [Option.bind_some]
    rw [show (365 : Int) + 0 = 365 from by omega, wrap_id (d + 365) (by omega) (by omega)]
    refine Ev.step (fun k => by simp only [domesdayref04_Of.l0]; rfl) ?_
    simp only [if_neg (show ¬ d + 365 < 0 by omega)]
    exact b9
  · obtain ⟨Y', M, D, yd, b1, b2, b3, b4, b5, b6, b7, b8, b9⟩ := refUp_ev c sec wd d hc hs hs' _ d 1970 (by omega) (Nat.le_refl _) (by omega) (by omega) (by omega)
    refine ⟨Y', M, D, yd, b1, b2, b3, b4, b5, b6, b7, b8, ?_⟩
    refine Ev.step (fun k => by simp only [domesdayref04_Of.l0]; rfl) ?_
    simp only [if_neg hn]
    exact b9
theorem clamp_eq' (o : Int) : mx (mn o 86400) (-86400) = clamp o := by unfold mn mx clamp; repeat' split <;> omega
theorem db_cycles (y c : Int) : db (y + 400 * c) = db y + 146097 * c := by
  unfold db
  rw [show (y + 400 * c) / 400 = y / 400 + c from by omega, show (y + 400 * c) % 400 = y % 400 from by omega]
  omega
/-- Behind the cycles: the rest of a cycle, and the offset. -/
theorem refJ_ev (t o c r : Int) (hc : -1000000000 ≤ c ∧ c ≤ 1000000000) (ht : t = 12622780800 * c + r) (hr : 0 ≤ r) (hr' : r < 12622780800) :
    ∃ Y M D h mi s wd yd : Int, Date t o Y M D h mi s wd yd ∧ Ev (fun k => domesdayref04_Of.j0 k o c r) (Y, M, D, h, mi, s, wd, yd) := by
  have hcl := clamp_bd o
  have hd0 : -1 ≤ (r + clamp o) / 86400 ∧ (r + clamp o) / 86400 ≤ 200000 := by omega
  have hs0 : 0 ≤ (r + clamp o) % 86400 ∧ (r + clamp o) % 86400 < 86400 := by omega
  have e1 : (t + clamp o) / 86400 = 146097 * c + (r + clamp o) / 86400 := by omega
  have e2 : (t + clamp o) % 86400 = (r + clamp o) % 86400 := by omega
  unfold Date
  rw [e1, e2]
  have hcase : ∃ q d0 : Int, q + 86400 * d0 = r + clamp o ∧ 0 ≤ q ∧ -1 ≤ d0 ∧ d0 ≤ 0 ∧ q ≤ 13000000000 ∧
      ∀ out, Ev (fun k => domesdayref04_Of.j1 k c q d0) out → Ev (fun k => domesdayref04_Of.j0 k o c r) out := by
    by_cases hn : r + clamp o < 0
    · refine ⟨r + clamp o + 86400, -1, by omega, by omega, by omega, by omega, by omega, fun out h => ?_⟩
      refine Ev.step (fun k => by simp only [domesdayref04_Of.j0]; rfl) ?_
      rw [clamp_eq', wrap_id (r + clamp o) (by omega) (by omega)]
      simp only [if_pos hn]
      rw [wrap_id (r + clamp o + 86400) (by omega) (by omega)]
      exact h
    · refine ⟨r + clamp o, 0, by omega, by omega, by omega, by omega, by omega, fun out h => ?_⟩
      refine Ev.step (fun k => by simp only [domesdayref04_Of.j0]; rfl) ?_
      rw [clamp_eq', wrap_id (r + clamp o) (by omega) (by omega)]
      simp only [if_neg hn]
      exact h
  obtain ⟨q, d0, q1, q2, q3, q4, q5, q6⟩ := hcase
  have e3 : (r + clamp o) / 86400 = d0 + q / 86400 := by omega
  have e4 : (r + clamp o) % 86400 = q % 86400 := by omega
  rw [e3, e4]
  obtain ⟨Y', M, D, yd, b1, b2, b3, b4, b5, b6, b7, b8, b9⟩ := refDown_ev c (q % 86400) ((d0 + q / 86400 + 4) % 7) (d0 + q / 86400) hc (by omega) (by omega) (by omega) (by omega)
  refine ⟨Y' + 400 * c, M, D, q % 86400 / 3600, q % 86400 / 60 % 60, q % 86400 % 60, (d0 + q / 86400 + 4) % 7, yd, ?_, q6 _ ?_⟩
  · have l1 : lp (Y' + 400 * c) = lp Y' := by rw [show Y' + 400 * c = 400 * c + Y' from by omega, lp_shift]
    have l2 : ∀ m, dim (Y' + 400 * c) m = dim Y' m := fun m => by unfold dim; rw [l1]
    have l3 : ∀ m, cum (Y' + 400 * c) m = cum Y' m := fun m => by unfold cum; rw [l1]
    exact Is.mk' (by rw [db_cycles]; omega) b2 (by rw [l1]; exact b3) ⟨b4, b5⟩ ⟨b6, by rw [l2]; exact b7, by rw [l3]; exact b8⟩ rfl rfl rfl (by omega)
  · refine Ev.step (fun k => by simp only [domesdayref04_Of.j1]; rfl) ?_
    rw [tmod_nn q _ q2, tdiv_nn q _ q2, wrap_id (q / 86400) (by omega) (by omega), wrap_id (d0 + q / 86400) (by omega) (by omega)]
    rw [show wrap64 (Int.tmod (d0 + q / 86400) 7 + 11) = Int.tmod (d0 + q / 86400) 7 + 11 from wrap_id _ (by have := Int.lt_tmod_of_pos (d0 + q / 86400) (show (0 : Int) < 7 by omega); omega) (by have := Int.tmod_lt_of_pos (d0 + q / 86400) (show (0 : Int) < 7 by omega); omega)]
    have hw : Int.tmod (Int.tmod (d0 + q / 86400) 7 + 11) 7 = (d0 + q / 86400 + 4) % 7 := by
      by_cases hp : 0 ≤ d0 + q / 86400
      · rw [tmod_nn _ _ hp, tmod_nn _ _ (by omega)]; omega
      · rw [show d0 + q / 86400 = -1 from by omega]; decide
    rw [hw]
    exact b9
theorem refOf_ev (t o : Int) (g0 : -9223372036854775808 ≤ t) (g1 : t ≤ 9223372036854775807) :
    ∃ Y M D h mi s wd yd : Int, Date t o Y M D h mi s wd yd ∧ Ev (fun k => domesdayref04_Of.f k t o) (Y, M, D, h, mi, s, wd, yd) := by
  have e1 := Int.tdiv_eq_ediv (a := t) (b := 12622780800)
  have e3 : (12622780800 : Int).sign = 1 := by decide
  rw [e3] at e1
  have hq : -1000000000 ≤ t / 12622780800 ∧ t / 12622780800 ≤ 1000000000 := by omega
  unfold domesdayref04_Of.f
  by_cases g : 0 ≤ t ∨ (12622780800 : Int) ∣ t
  · rw [if_pos g, Int.add_zero] at e1
    rw [e1, wrap_id (t / 12622780800) (by omega) (by omega), wrap_id (t / 12622780800 * 12622780800) (by omega) (by omega), wrap_id (t - t / 12622780800 * 12622780800) (by omega) (by omega)]
    simp only [if_neg (show ¬ t - t / 12622780800 * 12622780800 < 0 by omega)]
    exact refJ_ev t o _ _ hq (by omega) (by omega) (by omega)
  · rw [if_neg g] at e1
    have hne : t % 12622780800 ≠ 0 := fun h0 => g (Or.inr (Int.dvd_of_emod_eq_zero h0))
    have ht : t < 0 := by
      rcases Int.lt_or_le t 0 with h | h
      · exact h
      · exact absurd (Or.inl h) g
    rw [e1, wrap_id (t / 12622780800 + 1) (by omega) (by omega), wrap_id ((t / 12622780800 + 1) * 12622780800) (by omega) (by omega), wrap_id (t - (t / 12622780800 + 1) * 12622780800) (by omega) (by omega)]
    simp only [if_pos (show t - (t / 12622780800 + 1) * 12622780800 < 0 by omega)]
    rw [wrap_id (t / 12622780800 + 1 - 1) (by omega) (by omega), wrap_id (t - (t / 12622780800 + 1) * 12622780800 + 12622780800) (by omega) (by omega)]
    exact refJ_ev t o _ _ (by omega) (by omega) (by omega) (by omega)
end Go.Proofs.YtbbnjpnpgcjelaaDoor.DateEv
