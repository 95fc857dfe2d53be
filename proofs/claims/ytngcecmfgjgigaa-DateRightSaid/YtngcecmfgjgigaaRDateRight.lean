/- What package date's Right and Time come to, as plain integers. -/
import Derived.Test.YtngcecmfgjgigaaDateMath
import Derived.Test.YtngcecmfgjgigaaQDateRightx8
import Derived.Test.YtngcecmfgjgigaaMDateRight
import Derived.Test.YtngcecmfgjgigaaODateRight
namespace Go.Proofs.Ytngcecmfgjgigaa.MDateRight
open Go.RowKit Go.Proofs.Ytngcecmfgjgigaa.QDateRight Go.Proofs.Ytngcecmfgjgigaa.DateMath Go.Proofs.YtngcecmfgjgigaaW.PrintWords Go.Proofs.YtngcecmfgjgigaaW.PrintLast Go.Proofs.YtngcecmfgjgigaaW.PrintMore
set_option linter.unusedVariables false
set_option linter.unusedSimpArgs false

/-- A right date. -/
def RightP (Y M D h mi s wd yd : Int) : Prop :=
  -300000000000 ≤ Y ∧ Y ≤ 300000000000 ∧ 1 ≤ D ∧ D ≤ dim Y M ∧ yd = cum Y M + D ∧ 0 ≤ h ∧ h < 24 ∧ 0 ≤ mi ∧ mi < 60 ∧ 0 ≤ s ∧ s < 60 ∧ wd = (db Y + yd - 1 - 719528 + 4) % 7
theorem dim_month (Y M D : Int) (h : 1 ≤ D) (h' : D ≤ dim Y M) : 1 ≤ M ∧ M ≤ 12 := by
  unfold dim at h'
  repeat' split at h'
  all_goals omega
theorem cum_bd (Y M D : Int) (h : 1 ≤ D) (h' : D ≤ dim Y M) : 1 ≤ cum Y M + D ∧ cum Y M + D ≤ 365 + lp Y := by
  obtain ⟨m1, m2⟩ := dim_month Y M D h h'
  have c0 := cum_mono Y 1 M (by omega) m1 (by omega)
  have c1 := cum_one Y
  have cs := cum_succ Y M m1 m2
  have ce := cum_mono Y (M + 1) 13 (by omega) (by omega) (by omega)
  have c13 := cum_13 Y
  omega
theorem yearday_ev (Y M D h mi s wd yd : Int) (d1 : 1 ≤ D) (d2 : D ≤ 31) (m2 : M ≤ 12) (n : Nat) :
    ∀ m acc : Int, 1 ≤ m → m ≤ M → (M - m).toNat = n → acc = cum Y m + D → Ev (fun k => date_yearday.l0 k acc m Y M D h mi s wd yd) (cum Y M + D) := by
  induction n with
  | zero =>
    intro m acc m0 m1 hn e
    refine Ev.step (fun k => by simp only [date_yearday.l0]; rfl) ?_
    simp only [if_neg (show ¬ m < M by omega)]
    rw [e, show m = M from by omega]
    exact Ev.now _
  | succ n ih =>
    intro m acc m0 m1 hn e
    have hdim := dim_pos Y m m0 (by omega)
    have hlp := lp_01 Y
    have cs := cum_succ Y m m0 (by omega)
    have c0 := cum_mono Y 1 m (by omega) m0 (by omega)
    have ce := cum_mono Y m 13 m0 (by omega) (by omega)
    have c13 := cum_13 Y
    have c1 := cum_one Y
    refine Ev.step (fun k => by simp only [date_yearday.l0]; rfl) ?_
    simp only [if_pos (show m < M by omega)]
    refine Ev.bind (days_ev Y m) ?_
    rw [wrap_id (acc + dim Y m) (by omega) (by omega), wrap_id (m + 1) (by omega) (by omega)]
    exact ih (m + 1) (acc + dim Y m) (by omega) (by omega) (by omega) (by omega)
theorem days_of (Y M D h mi s wd yd : Int) (h1 : -300000000000 ≤ Y) (h2 : Y ≤ 300000000000) (h3 : 1 ≤ yd) (h4 : yd ≤ 366) :
    date_days.f Y M D h mi s wd yd = some (db Y + yd - 1 - 719528) := by
  have hb := before_bd (Y % 400) (by omega) (by omega)
  unfold date_days.f
  rw [floor_eq Y 400 (by omega) (by omega) (by omega) (by omega)]
  simp only [Option.bind_some]
  rw [before_eq (Y % 400) (by omega) (by omega)]
  simp only [Option.bind_some]
  rw [wrap_id (Y / 400 * 146097) (by omega) (by omega), wrap_id (Y / 400 * 146097 + before (Y % 400)) (by omega) (by omega), wrap_id (Y / 400 * 146097 + before (Y % 400) + yd) (by omega) (by omega),
    wrap_id (Y / 400 * 146097 + before (Y % 400) + yd - 1) (by omega) (by omega), wrap_id (Y / 400 * 146097 + before (Y % 400) + yd - 1 - 719528) (by omega) (by omega)]
  unfold db
  congr 1; omega
theorem rightJ_true (Y M D h mi s wd yd : Int) : Ev (fun k => date_Right.j0 k true Y M D h mi s wd yd) false := by
  refine Ev.step (fun k => by simp only [date_Right.j0]; rfl) ?_
  exact Ev.congr (fun k => by simp) (Ev.now _)
theorem rightJ_false (Y M D h mi s wd yd : Int) (h1 : -300000000000 ≤ Y) (h2 : Y ≤ 300000000000) (h3 : 1 ≤ yd) (h4 : yd ≤ 366) :
    Ev (fun k => date_Right.j0 k false Y M D h mi s wd yd) (decide (0 ≤ h ∧ h < 24 ∧ 0 ≤ mi ∧ mi < 60 ∧ 0 ≤ s ∧ s < 60 ∧ wd = (db Y + yd - 1 - 719528 + 4) % 7)) := by
  have hb := db_bd Y
  refine Ev.step (fun k => by simp only [date_Right.j0]; rfl) ?_
  rw [days_of Y M D h mi s wd yd h1 h2 h3 h4]
  simp only [Bool.false_eq_true, if_false, Option.bind_some]
  rw [wrap_id (db Y + yd - 1 - 719528 + 4) (by omega) (by omega), floor_eq _ 7 (by omega) (by omega) (by omega) (by omega)]
  simp only [Option.bind_some]
  refine Ev.congr (fun k => ?_) (Ev.now _)
  by_cases a1 : 0 ≤ h
  · by_cases a2 : h < 24
    · by_cases a3 : 0 ≤ mi
      · by_cases a4 : mi < 60
        · by_cases a5 : 0 ≤ s
          · by_cases a6 : s < 60
            · simp only [ge_iff_le, a1, a2, a3, a4, a5, a6, if_true, true_and]
              congr 1
            · simp [a1, a2, a3, a4, a5, a6]
          · simp [a1, a2, a3, a4, a5]
        · simp [a1, a2, a3, a4]
      · simp [a1, a2, a3]
    · simp [a1, a2]
  · simp [a1]
theorem right_no (Y M D h mi s wd yd : Int) (hn : ¬ RightP Y M D h mi s wd yd) : Ev (fun k => date_Right.f k Y M D h mi s wd yd) false := by
  unfold date_Right.f
  by_cases c1 : Y < -300000000000
  · simp only [if_pos c1]; exact rightJ_true ..
  simp only [if_neg c1]
  by_cases c2 : Y > 300000000000
  · simp only [if_pos c2]; exact rightJ_true ..
  simp only [if_neg c2]
  by_cases c3 : D < 1
  · simp only [if_pos c3]; exact rightJ_true ..
  simp only [if_neg c3]
  refine Ev.bind (days_ev Y M) ?_
  by_cases c4 : D > dim Y M
  · simp only [if_pos c4]; exact rightJ_true ..
  simp only [if_neg c4]
  obtain ⟨m1, m2⟩ := dim_month Y M D (by omega) (by omega)
  have hd := dim_pos Y M m1 m2
  have cb := cum_bd Y M D (by omega) (by omega)
  have hlp := lp_01 Y
  have hy : Ev (fun k => date_yearday.f k Y M D h mi s wd yd) (cum Y M + D) := by
    unfold date_yearday.f
    exact yearday_ev Y M D h mi s wd yd (by omega) (by omega) m2 _ 1 D (by omega) m1 rfl (by rw [cum_one]; omega)
  refine Ev.bind hy ?_
  by_cases c5 : yd = cum Y M + D
  · rw [show (yd != cum Y M + D) = false from by simp [c5]]
    have hj := rightJ_false Y M D h mi s wd yd (by omega) (by omega) (by omega) (by omega)
    rw [decide_eq_false (fun hh => hn ⟨by omega, by omega, by omega, by omega, c5, hh⟩)] at hj
    exact hj
  · rw [show (yd != cum Y M + D) = true from by simp [c5]]
    exact rightJ_true ..
theorem right_yes (Y M D h mi s wd yd : Int) (hr : RightP Y M D h mi s wd yd) : Ev (fun k => date_Right.f k Y M D h mi s wd yd) true := by
  obtain ⟨r1, r2, r3, r4, r5, r6⟩ := hr
  unfold date_Right.f
  simp only [if_neg (show ¬ Y < -300000000000 by omega), if_neg (show ¬ Y > 300000000000 by omega), if_neg (show ¬ D < 1 by omega)]
  refine Ev.bind (days_ev Y M) ?_
  simp only [if_neg (show ¬ D > dim Y M by omega)]
  obtain ⟨m1, m2⟩ := dim_month Y M D (by omega) (by omega)
  have hd := dim_pos Y M m1 m2
  have cb := cum_bd Y M D (by omega) (by omega)
  have hlp := lp_01 Y
  have hy : Ev (fun k => date_yearday.f k Y M D h mi s wd yd) (cum Y M + D) := by
    unfold date_yearday.f
    exact yearday_ev Y M D h mi s wd yd (by omega) (by omega) m2 _ 1 D (by omega) m1 rfl (by rw [cum_one]; omega)
  refine Ev.bind hy ?_
  rw [show (yd != cum Y M + D) = false from by simp [r5]]
  have hj := rightJ_false Y M D h mi s wd yd (by omega) (by omega) (by omega) (by omega)
  rw [decide_eq_true r6] at hj
  exact hj
/-- The time of a date. -/
def T (Y h mi s yd o : Int) : Int := (db Y + yd - 1 - 719528) * 86400 + (3600 * h + 60 * mi + s - clamp o)
theorem date_T {t o Y M D h mi s wd yd : Int} (a : Date t o Y M D h mi s wd yd) : t = T Y h mi s yd o := by
  obtain ⟨e1, _, _⟩ := Is.day_eq a
  have e2 := a.hour
  have e3 := a.minute
  have e4 := a.second
  unfold T
  omega
theorem T_date {t o Y M D h mi s wd yd : Int} (hr : RightP Y M D h mi s wd yd) (ht : t = T Y h mi s yd o) : Date t o Y M D h mi s wd yd := by
  obtain ⟨r1, r2, r3, r4, r5, r6, r7, r8, r9, r10, r11, r12⟩ := hr
  have hm := dim_month Y M D r3 r4
  have cb := cum_bd Y M D r3 r4
  unfold T at ht
  have e1 : (t + clamp o) / 86400 = db Y + yd - 1 - 719528 := by omega
  have e2 : (t + clamp o) % 86400 = 3600 * h + 60 * mi + s := by omega
  unfold Date
  rw [e1, e2]
  exact Is.mk' (by omega) (by omega) (by omega) hm ⟨r3, r4, r5⟩ (by omega) (by omega) (by omega) r12
theorem date_right {t o Y M D h mi s wd yd : Int} (g0 : -9223372036854775808 ≤ t) (g1 : t ≤ 9223372036854775807) (a : Date t o Y M D h mi s wd yd) : RightP Y M D h mi s wd yd := by
  obtain ⟨e1, e2, e3⟩ := Is.day_eq a
  have hcl := clamp_bd o
  have hb := db_bd Y
  obtain ⟨d1, d2, d3⟩ := a.inMonth
  have h1 := a.hour
  have h2 := a.minute
  have h3 := a.second
  have h4 := a.week
  have hlp := lp_01 Y
  refine ⟨by omega, by omega, d1, d2, d3, by omega, by omega, by omega, by omega, by omega, by omega, ?_⟩
  rw [h4]; congr 1; omega
theorem leaf_yes (t o Y M D h mi s wd yd : Int) (g0 : -9223372036854775808 ≤ t) (g1 : t ≤ 9223372036854775807) (a : Date t o Y M D h mi s wd yd) :
    Ev (fun k => (date_Of.f k t o).bind fun b => (if (!(b.1 == Y) || (!(b.2.1 == M) || (!(b.2.2.1 == D) || (!(b.2.2.2.1 == h) || (!(b.2.2.2.2.1 == mi) || (!(b.2.2.2.2.2.1 == s) || (!(b.2.2.2.2.2.2.1 == wd) || (!(b.2.2.2.2.2.2.2 == yd))))))))) = true then (some ((0 : Int), false)) else (some (t, true)))) (t, true) := by
  obtain ⟨Y', M', D', h', mi', s', wd', yd', b, hev⟩ := of_ev t o g0 g1
  obtain ⟨rfl, rfl, rfl, rfl, rfl, rfl, rfl, rfl⟩ := Is.one a b
  refine Ev.bind hev ?_
  exact Ev.congr (fun k => by simp) (Ev.now _)
theorem leaf_no (t o Y M D h mi s wd yd : Int) (g0 : -9223372036854775808 ≤ t) (g1 : t ≤ 9223372036854775807) (a : ¬ Date t o Y M D h mi s wd yd) :
    Ev (fun k => (date_Of.f k t o).bind fun b => (if (!(b.1 == Y) || (!(b.2.1 == M) || (!(b.2.2.1 == D) || (!(b.2.2.2.1 == h) || (!(b.2.2.2.2.1 == mi) || (!(b.2.2.2.2.2.1 == s) || (!(b.2.2.2.2.2.2.1 == wd) || (!(b.2.2.2.2.2.2.2 == yd))))))))) = true then (some ((0 : Int), false)) else (some (t, true)))) ((0 : Int), false) := by
  obtain ⟨Y', M', D', h', mi', s', wd', yd', b, hev⟩ := of_ev t o g0 g1
  refine Ev.bind hev ?_
  have hne : ¬ (Y' = Y ∧ M' = M ∧ D' = D ∧ h' = h ∧ mi' = mi ∧ s' = s ∧ wd' = wd ∧ yd' = yd) := by
    rintro ⟨rfl, rfl, rfl, rfl, rfl, rfl, rfl, rfl⟩
    exact a b
  refine Ev.congr (fun k => if_pos ?_) (Ev.now _)
  simp only [Bool.or_eq_true, Bool.not_eq_true', beq_eq_false_iff_ne]
  omega
theorem wrap_add (a b : Int) : wrap64 (wrap64 a + b) = wrap64 (a + b) := by unfold wrap64; omega
theorem wrap_bd (a : Int) : -9223372036854775808 ≤ wrap64 a ∧ wrap64 a ≤ 9223372036854775807 := by unfold wrap64; omega
theorem time_no (Y M D h mi s wd yd o : Int) (hn : ¬ RightP Y M D h mi s wd yd) : Ev (fun k => date_Time.f k Y M D h mi s wd yd o) (0, false) := by
  unfold date_Time.f
  refine Ev.bind (right_no _ _ _ _ _ _ _ _ hn) ?_
  exact Ev.congr (fun k => by simp) (Ev.now _)
theorem time_of (Y M D h mi s wd yd o : Int) (hr : RightP Y M D h mi s wd yd) (out : Int × Bool)
    (hin : -9223372036854775808 ≤ T Y h mi s yd o → T Y h mi s yd o ≤ 9223372036854775807 → out = (T Y h mi s yd o, true))
    (hout : ¬ (-9223372036854775808 ≤ T Y h mi s yd o ∧ T Y h mi s yd o ≤ 9223372036854775807) → out = (0, false)) : Ev (fun k => date_Time.f k Y M D h mi s wd yd o) out := by
  have hr' := hr
  obtain ⟨r1, r2, r3, r4, r5, r6, r7, r8, r9, r10, r11, r12⟩ := hr'
  have cb := cum_bd Y M D r3 r4
  have hlp := lp_01 Y
  have hcl := clamp_bd o
  have hb := db_bd Y
  unfold date_Time.f
  refine Ev.bind (right_yes _ _ _ _ _ _ _ _ hr) ?_
  simp only [if_true]
  rw [clamp_eq, wrap_id (3600 * h) (by omega) (by omega), wrap_id (60 * mi) (by omega) (by omega), wrap_id (3600 * h + 60 * mi) (by omega) (by omega), wrap_id (3600 * h + 60 * mi + s) (by omega) (by omega), wrap_id (3600 * h + 60 * mi + s - clamp o) (by omega) (by omega)]
  rw [floor_eq _ 86400 (by omega) (by omega) (by omega) (by omega), days_of Y M D h mi s wd yd r1 r2 (by omega) (by omega)]
  simp only [Option.bind_some]
  rw [wrap_id (db Y + yd - 1 - 719528 + (3600 * h + 60 * mi + s - clamp o) / 86400) (by omega) (by omega)]
  simp only [wrap_add]
  have hT : (db Y + yd - 1 - 719528 + (3600 * h + 60 * mi + s - clamp o) / 86400) * 86400 + (3600 * h + 60 * mi + s - clamp o) % 86400 = T Y h mi s yd o := by unfold T; omega
  rw [hT]
  have hn0 : db Y + yd - 1 - 719528 + (3600 * h + 60 * mi + s - clamp o) / 86400 = T Y h mi s yd o / 86400 := by unfold T; omega
  rw [hn0]
  have wb := wrap_bd (T Y h mi s yd o)
  by_cases hi : -9223372036854775808 ≤ T Y h mi s yd o ∧ T Y h mi s yd o ≤ 9223372036854775807
  · rw [hin hi.1 hi.2, wrap_id _ hi.1 hi.2]
    have hl := leaf_yes (T Y h mi s yd o) o Y M D h mi s wd yd hi.1 hi.2 (T_date hr rfl)
    by_cases c1 : T Y h mi s yd o / 86400 > 0
    · simp only [if_pos c1, if_neg (show ¬ T Y h mi s yd o < 0 by omega), if_neg (show ¬ T Y h mi s yd o / 86400 < -1 by omega)]
      exact hl
    · by_cases c2 : T Y h mi s yd o / 86400 < -1
      · simp only [if_neg c1, if_pos c2, if_neg (show ¬ T Y h mi s yd o > 0 by omega)]
        exact hl
      · simp only [if_neg c1, if_neg c2]
        exact hl
  · rw [hout hi]
    have hl := leaf_no (wrap64 (T Y h mi s yd o)) o Y M D h mi s wd yd wb.1 wb.2 (fun a => by
      have := date_T a
      omega)
    repeat' first
      | exact Ev.now _
      | exact hl
      | (split)
theorem T_bd {Y M D h mi s wd yd : Int} (o : Int) (hr : RightP Y M D h mi s wd yd) (h1 : -290000000000 ≤ Y) (h2 : Y ≤ 290000000000) : -9223372036854775808 ≤ T Y h mi s yd o ∧ T Y h mi s yd o ≤ 9223372036854775807 := by
  obtain ⟨r1, r2, r3, r4, r5, r6, r7, r8, r9, r10, r11, r12⟩ := hr
  have cb := cum_bd Y M D r3 r4
  have hlp := lp_01 Y
  have hcl := clamp_bd o
  have hb := db_bd Y
  unfold T
  omega
end Go.Proofs.Ytngcecmfgjgigaa.MDateRight
