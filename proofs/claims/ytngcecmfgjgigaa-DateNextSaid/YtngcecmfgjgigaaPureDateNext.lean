/- P4.3: a second later is the next date: the second rises, or all below begins anew. No condition beside the law's own. -/
import Derived.Test.YtngcecmfgjgigaaQDateNextx4
import Derived.Test.YtngcecmfgjgigaaMDateNext
import Derived.Test.YtngcecmfgjgigaaDateNextMath
import Derived.OpenShut
namespace Go.Proofs.Ytngcecmfgjgigaa.Pure
open Go.RowKit Go.Proofs.Ytngcecmfgjgigaa.QDateNext Go.Proofs.Ytngcecmfgjgigaa.MDateNext Go.Proofs.Ytngcecmfgjgigaa.DateMath Go.Proofs.YtngcecmfgjgigaaW.PrintWords Go.Proofs.YtngcecmfgjgigaaW.PrintLast
set_option linter.unusedVariables false
set_option linter.unusedSimpArgs false

theorem next_awake : Ev (fun k => domesdaylaw04_awake.f k) true := by
  obtain ⟨Y, M, D, h, mi, s, wd, yd, hd, hev⟩ := of_ev 0 3600 (by omega) (by omega)
  have hh : h = 1 := by have := hd.hour; rw [this]; decide
  unfold domesdaylaw04_awake.f
  refine Ev.bind hev ?_
  simp only [hh, if_true]
  refine Ev.bind (days_ev 2000 2) ?_
  exact Ev.congr (fun k => by simp [dim, lp]) (Ev.now _)
/-- Behind the minutes' test: an hour that goes on, or a new day. -/
theorem j1_hour (Y M D h mi s wd yd mi' s' : Int) (hh : mi < 59 ∨ h < 23) (h' : Int) :
    Ev (fun k => domesdaylaw04_DateNext.j1 k false Y M D h mi s wd yd Y M D h' mi' s' wd yd) true := by
  refine Ev.step (fun k => by simp only [domesdaylaw04_DateNext.j1]; rfl) ?_
  simp only [Bool.false_eq_true, if_false]
  by_cases c : mi < 59
  · simp only [if_pos c]; exact Ev.congr (fun k => by simp) (Ev.now _)
  · simp only [if_neg c, if_pos (show h < 23 by omega)]; exact Ev.congr (fun k => by simp) (Ev.now _)
theorem rest_ev (Y M D yd Y' M' D' yd' : Int)
    (h : Y' = Y ∧ yd' = wrap64 (yd + 1) ∧ (D = dim Y M → M' = wrap64 (M + 1) ∧ D' = 1) ∧ (D ≠ dim Y M → M' = M ∧ D' = wrap64 (D + 1))) :
    Ev (fun k => (date_Days.f k Y M).bind fun t147 => (if D = t147 then (if Y' = Y then (if M' = (wrap64 (M + 1)) then (if D' = 1 then (some (yd' == (wrap64 (yd + 1)))) else (none)) else (none)) else (none)) else (if Y' = Y then (if M' = M then (if D' = (wrap64 (D + 1)) then (some (yd' == (wrap64 (yd + 1)))) else (none)) else (none)) else (none)))) true := by
  obtain ⟨rfl, rfl, h1, h2⟩ := h
  refine Ev.bind (days_ev Y' M) ?_
  by_cases c : D = dim Y' M
  · obtain ⟨rfl, rfl⟩ := h1 c
    exact Ev.congr (fun k => by simp [c]) (Ev.now _)
  · obtain ⟨rfl, rfl⟩ := h2 c
    exact Ev.congr (fun k => by simp [c]) (Ev.now _)
theorem j1_day (Y M D h mi s wd yd Y' M' D' mi' s' yd' : Int) (hm : ¬ mi < 59) (hh : ¬ h < 23) (hwd : 0 ≤ wd ∧ wd < 7) (hM : M = 12 → D ≤ 31)
    (hy : M = 12 → D = 31 → Y' = wrap64 (Y + 1) ∧ M' = 1 ∧ D' = 1 ∧ yd' = 1)
    (hn : ¬ (M = 12 ∧ D = 31) → Y' = Y ∧ yd' = wrap64 (yd + 1) ∧ (D = dim Y M → M' = wrap64 (M + 1) ∧ D' = 1) ∧ (D ≠ dim Y M → M' = M ∧ D' = wrap64 (D + 1))) :
    Ev (fun k => domesdaylaw04_DateNext.j1 k false Y M D h mi s wd yd Y' M' D' 0 mi' s' ((wd + 1) % 7) yd') true := by
  refine Ev.step (fun k => by simp only [domesdaylaw04_DateNext.j1]; rfl) ?_
  simp only [Bool.false_eq_true, if_false, if_neg hm, if_neg hh, if_true]
  rw [wrap_id (wd + 1) (by omega) (by omega), tmod_nn _ _ (by omega)]
  simp only [if_true]
  by_cases c : M = 12
  · simp only [if_pos c]
    by_cases c' : D = 31
    · obtain ⟨rfl, rfl, rfl, rfl⟩ := hy c c'
      simp only [if_pos c']
      exact Ev.congr (fun k => by simp) (Ev.now _)
    · simp only [if_neg c']
      exact rest_ev _ _ _ _ _ _ _ _ (hn (fun e => c' e.2))
  · simp only [if_neg c]
    exact rest_ev _ _ _ _ _ _ _ _ (hn (fun e => c e.1))
theorem DateNext : domesdaylaw04_DateNext.Pure := by
  intro a0 a1 w0 w1
  have b0 := Go.bounds_i64 w0
  refine Ev.rounds ?_
  unfold domesdaylaw04_DateNext.f
  refine Ev.bind next_awake ?_
  simp only [if_true]
  by_cases hmax : a0 = 9223372036854775807
  · rw [show (a0 == 9223372036854775807) = true from by simp [hmax]]
    refine Ev.step (fun k => by simp only [domesdaylaw04_DateNext.j0]; rfl) ?_
    simp only [if_true]
    exact Ev.bind next_awake (Ev.now _)
  · rw [show (a0 == 9223372036854775807) = false from by simp [hmax]]
    obtain ⟨Y, M, D, h, mi, s, wd, yd, a, hev⟩ := of_ev a0 a1 b0.1 b0.2
    obtain ⟨Y', M', D', h', mi', s', wd', yd', b, hev'⟩ := of_ev (a0 + 1) a1 (by omega) (by omega)
    obtain ⟨r1, r2, r3, r4, r5, r6, r7, r8, r9, r10, r11, r12, r13, r14, r15, r16, r17⟩ := date_ranges b0.1 b0.2 a
    refine Ev.step (fun k => by simp only [domesdaylaw04_DateNext.j0]; rfl) ?_
    simp only [Bool.false_eq_true, if_false]
    rw [wrap_id (a0 + 1) (by omega) (by omega)]
    refine Ev.bind hev ?_
    refine Ev.bind hev' ?_
    by_cases c1 : s < 59
    · obtain ⟨rfl, rfl, rfl, rfl, rfl, rfl, rfl, rfl⟩ := Is.one b (next_second a c1)
      simp only [if_pos c1]
      rw [wrap_id (s + 1) (by omega) (by omega)]
      exact Ev.congr (fun k => by simp) (Ev.now _)
    · have hs : s = 59 := by omega
      simp only [if_neg c1]
      by_cases c2 : mi < 59
      · obtain ⟨rfl, rfl, rfl, rfl, rfl, rfl, rfl, rfl⟩ := Is.one b (next_minute a hs c2)
        simp only [if_pos c2, if_true, wrap_id (mi + 1) (by omega) (by omega), if_neg (show ¬ mi = 59 by omega)]
        exact j1_hour _ _ _ _ _ _ _ _ _ _ (Or.inl c2) _
      · have hm : mi = 59 := by omega
        simp only [if_neg c2, if_pos hm]
        by_cases c3 : h < 23
        · obtain ⟨rfl, rfl, rfl, rfl, rfl, rfl, rfl, rfl⟩ := Is.one b (next_hour a hs hm c3)
          simp only [if_true, bne_self_eq_false]
          exact j1_hour _ _ _ _ _ _ _ _ _ _ (Or.inr c3) _
        · have hl : M = 12 → D ≤ 31 := fun _ => r7
          by_cases c4 : D = dim Y M
          · by_cases c5 : M = 12
            · obtain ⟨rfl, rfl, rfl, rfl, rfl, rfl, rfl, rfl⟩ := Is.one b (next_year a hs hm c3 c4 c5)
              have hD : D = 31 := by rw [c4, c5, dim_last]
              simp only [if_true, bne_self_eq_false]
              exact j1_day _ _ _ _ _ _ _ _ _ _ _ _ _ _ c2 c3 ⟨r14, r15⟩ hl (fun _ _ => ⟨(wrap_id _ (by omega) (by omega)).symm, rfl, rfl, rfl⟩) (fun e => absurd ⟨c5, hD⟩ e)
            · obtain ⟨rfl, rfl, rfl, rfl, rfl, rfl, rfl, rfl⟩ := Is.one b (next_month a hs hm c3 c4 (by omega))
              simp only [if_true, bne_self_eq_false]
              exact j1_day _ _ _ _ _ _ _ _ _ _ _ _ _ _ c2 c3 ⟨r14, r15⟩ hl (fun e _ => absurd e c5) (fun _ => ⟨rfl, (wrap_id _ (by omega) (by omega)).symm, fun _ => ⟨(wrap_id _ (by omega) (by omega)).symm, rfl⟩, fun e => absurd c4 e⟩)
          · obtain ⟨rfl, rfl, rfl, rfl, rfl, rfl, rfl, rfl⟩ := Is.one b (next_day a hs hm c3 (by omega))
            simp only [if_true, bne_self_eq_false]
            refine j1_day _ _ _ _ _ _ _ _ _ _ _ _ _ _ c2 c3 ⟨r14, r15⟩ hl (fun e1 e2 => ?_) (fun _ => ⟨rfl, (wrap_id _ (by omega) (by omega)).symm, fun e => absurd e c4, fun _ => ⟨rfl, (wrap_id _ (by omega) (by omega)).symm⟩⟩)
            exact absurd (by rw [e2, e1, dim_last]) c4
end Go.Proofs.Ytngcecmfgjgigaa.Pure
