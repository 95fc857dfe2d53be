/- P4.1: of all years, and months, package date tells the leap years, and the days of the months, as the reference does. No condition. -/
import Derived.Test.YtngcecmfgjgigaaQDateMonthsx2
import Derived.Test.YtngcecmfgjgigaaNDateMonths
namespace Go.Proofs.Ytngcecmfgjgigaa.Pure
open Go.RowKit Go.Proofs.Ytngcecmfgjgigaa.QDateMonths Go.Proofs.Ytngcecmfgjgigaa.MDateMonths Go.Proofs.YtngcecmfgjgigaaW.PrintWords Go.Proofs.YtngcecmfgjgigaaW.PrintLast

theorem DateMonths : domesdaylaw04_DateMonths.Pure := by
  intro a0 a1 _ _
  refine Ev.rounds ?_
  unfold domesdaylaw04_DateMonths.f
  refine Ev.bind awake_ev ?_
  simp only [if_true, leap_eq, refLeap_eq, Option.bind_some, beq_self_eq_true]
  refine Ev.bind (days_ev a0 a1) ?_
  refine Ev.bind (refDays_ev a0 a1) ?_
  exact Ev.congr (fun k => by simp) (Ev.now _)
end Go.Proofs.Ytngcecmfgjgigaa.Pure
