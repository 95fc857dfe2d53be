/- P3.1: of all styles, and names, what is quoted is the chapter's (200 bytes). -/
import Derived.Test.YtkhbgfnbkdonlaaDoorPureQuo2
import Derived.Test.YtkhbgfnbkdonlaaDoorQStyles
namespace Go.Proofs.YtkhbgfnbkdonlaaDoor.Pure
open Go.RowKit Go.Lib Go.Proofs.YtkhbgfnbkdonlaaDoor.QQuo Go.Proofs.YtkhbgfnbkdonlaaDoorW.PrintWords Go.Proofs.YtkhbgfnbkdonlaaDoorW.PrintLast Go.Proofs.YtkhbgfnbkdonlaaDoorW.PrintMore
set_option linter.unusedVariables false
set_option linter.unusedSimpArgs false

theorem awake_ev : Ev (fun k => domesdaylaw03_awake.f k) true := by
  have hq : quoteL 3 (B [97, 32, 98, 10]) (kL (B [97, 32, 98, 10])) = [39, 97, 32, 98, 39, 36, 39, 92, 110, 39] := by decide +kernel
  have h := quote_ev 3 (B [97, 32, 98, 10]) (by decide)
  rw [hq] at h
  refine Ev.bind (f := fun _ t130 => (some (t130.toList == ([39, 97, 32, 98, 39, 36, 39, 92, 110, 39] : List UInt8)))) h ?_
  have e : ((B [39, 97, 32, 98, 39, 36, 39, 92, 110, 39]).toList == ([39, 97, 32, 98, 39, 36, 39, 92, 110, 39] : List UInt8)) = true := by decide +kernel
  rw [e]
  exact Ev.now true
theorem QuoteStyles (a0 : Int) (a1 : ByteArray) : ∃ k, domesdaylaw03_QuoteStyles.f k a0 a1 = some true := by
  refine Ev.rounds ?_
  refine Ev.bind (f := fun k t162 => (if t162 = true then (domesdaylaw03_QuoteStyles.j0 k a0 a1 (decide ((a1.size : Int) > 200))) else (domesdaylaw03_QuoteStyles.j0 k a0 a1 true))) awake_ev ?_
  refine Ev.congr (f := fun k => domesdaylaw03_QuoteStyles.j0 k a0 a1 (decide ((a1.size : Int) > 200))) (fun k => by rw [if_pos rfl]) ?_
  by_cases h : (a1.size : Int) > 200
  · rw [decide_eq_true h]
    exact Ev.step (f := fun k => (domesdaylaw03_awake.f k).bind fun t => some t) (fun k => by rw [domesdaylaw03_QuoteStyles.j0, if_pos rfl]) (Ev.bind (f := fun _ t => some t) awake_ev (Ev.now true))
  · rw [decide_eq_false h]
    refine Ev.step (f := fun k => (quote_Quote.f k a0 a1).bind fun t164 => ((domesdayref03_Quote.f k a0 a1).bind fun t165 => (some (t164.toList == t165.toList)))) (fun k => by rw [domesdaylaw03_QuoteStyles.j0, if_neg (by decide)]) ?_
    refine Ev.bind (f := fun k t164 => ((domesdayref03_Quote.f k a0 a1).bind fun t165 => (some (t164.toList == t165.toList)))) (quote_ev a0 a1 (by omega)) ?_
    refine Ev.bind (f := fun k t165 => (some ((B (quoteL a0 a1 (kL a1))).toList == t165.toList))) (rquote_ev a0 a1 (by omega)) ?_
    rw [show ((B (quoteL a0 a1 (kL a1))).toList == (B (quoteL a0 a1 (kL a1))).toList) = true from beq_self_eq_true _]
    exact Ev.now true
end Go.Proofs.YtkhbgfnbkdonlaaDoor.Pure
