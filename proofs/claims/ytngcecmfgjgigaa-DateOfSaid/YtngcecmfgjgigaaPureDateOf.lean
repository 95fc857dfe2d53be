/- P4.1: of all times, and offsets, the date is the reference's; it is right, and its time is the time. No condition. -/
import Derived.Test.YtngcecmfgjgigaaQDateOfx8
import Derived.Test.YtngcecmfgjgigaaRDateOf
import Derived.OpenShut
namespace Go.Proofs.Ytngcecmfgjgigaa.Pure
open Go.RowKit Go.Proofs.Ytngcecmfgjgigaa.QDateOf Go.Proofs.Ytngcecmfgjgigaa.MDateOf Go.Proofs.Ytngcecmfgjgigaa.DateMath Go.Proofs.YtngcecmfgjgigaaW.PrintWords Go.Proofs.YtngcecmfgjgigaaW.PrintLast

theorem DateOf : domesdaylaw04_DateOf.Pure := by
  intro a0 a1 w0 w1
  have b0 := Go.bounds_i64 w0
  obtain ⟨Y, M, D, h, mi, s, wd, yd, hd, hev⟩ := of_ev a0 a1 b0.1 b0.2
  obtain ⟨Y', M', D', h', mi', s', wd', yd', hd', hev'⟩ := refOf_ev a0 a1 b0.1 b0.2
  obtain ⟨rfl, rfl, rfl, rfl, rfl, rfl, rfl, rfl⟩ := Is.one hd hd'
  have hr := date_right b0.1 b0.2 hd
  have ht := date_T hd
  have htime : Ev (fun k => date_Time.f k Y M D h mi s wd yd a1) (a0, true) :=
    time_of Y M D h mi s wd yd a1 hr (a0, true) (fun _ _ => by rw [← ht]) (fun hh => absurd ⟨by omega, by omega⟩ hh)
  refine Ev.rounds ?_
  unfold domesdaylaw04_DateOf.f
  refine Ev.bind hev ?_
  refine Ev.bind htime ?_
  refine Ev.bind awake_ev ?_
  simp only [if_true]
  refine Ev.bind hev' ?_
  simp only [beq_self_eq_true, Bool.and_self, if_true]
  refine Ev.bind (right_yes _ _ _ _ _ _ _ _ hr) ?_
  exact Ev.congr (fun k => by simp) (Ev.now _)
end Go.Proofs.Ytngcecmfgjgigaa.Pure
