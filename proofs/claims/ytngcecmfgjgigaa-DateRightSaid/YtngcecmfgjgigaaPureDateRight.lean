/- P4.2: of all dates it is told whether there is such a one; its time has it. No condition. -/
import Derived.Test.YtngcecmfgjgigaaQDateRightx8
import Derived.Test.YtngcecmfgjgigaaRDateRight
import Derived.OpenShut
namespace Go.Proofs.Ytngcecmfgjgigaa.Pure
open Go.RowKit Go.Proofs.Ytngcecmfgjgigaa.QDateRight Go.Proofs.Ytngcecmfgjgigaa.MDateRight Go.Proofs.Ytngcecmfgjgigaa.DateMath Go.Proofs.YtngcecmfgjgigaaW.PrintWords Go.Proofs.YtngcecmfgjgigaaW.PrintLast

set_option linter.unusedVariables false
theorem DateRight (Y M D h mi s wd yd o : Int) (w0 : (Lit.int .i64 Y).wf = true) (w1 : (Lit.int .i64 M).wf = true) (w2 : (Lit.int .i64 D).wf = true) (w3 : (Lit.int .i64 h).wf = true) (w4 : (Lit.int .i64 mi).wf = true) (w5 : (Lit.int .i64 s).wf = true)
    (w6 : (Lit.int .i64 wd).wf = true) (w7 : (Lit.int .i64 yd).wf = true) (w8 : (Lit.int .i64 o).wf = true) : ∃ k, domesdaylaw04_DateRight.f k Y M D h mi s wd yd o = some true := by
  refine Ev.rounds ?_
  unfold domesdaylaw04_DateRight.f
  refine Ev.bind awake_ev ?_
  simp only [if_true]
  by_cases hr : RightP Y M D h mi s wd yd
  · by_cases hi : -9223372036854775808 ≤ T Y h mi s yd o ∧ T Y h mi s yd o ≤ 9223372036854775807
    · refine Ev.bind (time_of Y M D h mi s wd yd o hr (T Y h mi s yd o, true) (fun _ _ => rfl) (fun hh => absurd hi hh)) ?_
      simp only [if_true]
      refine Ev.bind (right_yes _ _ _ _ _ _ _ _ hr) ?_
      simp only [if_true]
      obtain ⟨Y', M', D', h', mi', s', wd', yd', hd', hev'⟩ := refOf_ev (T Y h mi s yd o) o hi.1 hi.2
      obtain ⟨rfl, rfl, rfl, rfl, rfl, rfl, rfl, rfl⟩ := Is.one (T_date hr rfl) hd'
      refine Ev.bind hev' ?_
      exact Ev.congr (fun k => by simp) (Ev.now _)
    · refine Ev.bind (time_of Y M D h mi s wd yd o hr (0, false) (fun h1 h2 => absurd ⟨h1, h2⟩ hi) (fun _ => rfl)) ?_
      simp only [Bool.false_eq_true, if_false, if_true]
      by_cases c1 : Y < -290000000000
      · simp only [if_pos c1]; exact Ev.now _
      · by_cases c2 : Y > 290000000000
        · simp only [if_neg c1, if_pos c2]; exact Ev.now _
        · exact absurd (T_bd o hr (by omega) (by omega)) hi
  · refine Ev.bind (time_no Y M D h mi s wd yd o hr) ?_
    simp only [Bool.false_eq_true, if_false, if_true]
    by_cases c1 : Y < -290000000000
    · simp only [if_pos c1]; exact Ev.now _
    · by_cases c2 : Y > 290000000000
      · simp only [if_neg c1, if_pos c2]; exact Ev.now _
      · simp only [if_neg c1, if_neg c2]
        refine Ev.bind (right_no _ _ _ _ _ _ _ _ hr) ?_
        exact Ev.congr (fun k => by simp) (Ev.now _)
end Go.Proofs.Ytngcecmfgjgigaa.Pure
