/- P5.1: of all formats, times and offsets what is written is the chapter's (100 bytes). -/
import Derived.Test.YtbbnjpnpgcjelaaDoorPureStm3
import Derived.Test.YtbbnjpnpgcjelaaDoorQFormats
namespace Go.Proofs.YtbbnjpnpgcjelaaDoor.Pure
open Go.RowKit Go.Lib Go.Proofs.YtbbnjpnpgcjelaaDoor.QStm Go.Proofs.YtbbnjpnpgcjelaaDoorW.PrintWords Go.Proofs.YtbbnjpnpgcjelaaDoorW.PrintLast Go.Proofs.YtbbnjpnpgcjelaaDoorW.PrintMore
set_option linter.unusedVariables false
theorem StampFormats (a0 : ByteArray) (a1 a2 : Int) (w0 : a0.size ≤ maxLen) (w1 : (Lit.int .i64 a1).wf = true) (w2 : (Lit.int .i64 a2).wf = true) : ∃ k, domesdaylaw05_StampFormats.f k a0 a1 a2 = some true := by
  have b1 := Go.bounds_i64 w1
  refine Ev.rounds ?_
  refine Ev.bind (f := fun k t149 => (if t149 = true then (domesdaylaw05_StampFormats.j0 k a0 a1 a2 (decide ((a0.size : Int) > 100))) else (domesdaylaw05_StampFormats.j0 k a0 a1 a2 true))) awake_ev ?_
  refine Ev.congr (f := fun k => domesdaylaw05_StampFormats.j0 k a0 a1 a2 (decide ((a0.size : Int) > 100))) (fun k => by rw [if_pos rfl]) ?_
  by_cases h : (a0.size : Int) > 100
  · rw [decide_eq_true h]
    exact Ev.step (f := fun k => (domesdaylaw05_awake.f k).bind fun t => some t) (fun k => by rw [domesdaylaw05_StampFormats.j0, if_pos rfl]) (Ev.bind (f := fun _ t => some t) awake_ev (Ev.now true))
  · rw [decide_eq_false h]
    obtain ⟨X, hX, _⟩ := formats a1 a2 b1.1 b1.2
    obtain ⟨e1, e2⟩ := hX a0 (by omega)
    refine Ev.step (f := fun k => (stamp_Format.f k a0 a1 a2).bind fun t151 => ((domesdayref05_Format.f k a0 a1 a2).bind fun t152 => (some (t151.toList == t152.toList)))) (fun k => by rw [domesdaylaw05_StampFormats.j0, if_neg (by decide)]) ?_
    refine Ev.bind (f := fun k t151 => ((domesdayref05_Format.f k a0 a1 a2).bind fun t152 => (some (t151.toList == t152.toList)))) e1 ?_
    refine Ev.bind (f := fun k t152 => (some ((B (fm X (L a0))).toList == t152.toList))) e2 ?_
    rw [beq_self_eq_true]
    exact Ev.now true
end Go.Proofs.YtbbnjpnpgcjelaaDoor.Pure
