/- P3.2: two names that aren't the same are quoted apart. -/
import Derived.Test.YtkhbgfnbkdonlaaDoorPureQuoteStyles
import Derived.Test.YtkhbgfnbkdonlaaDoorPureQuo3
import Derived.Test.YtkhbgfnbkdonlaaDoorQApart
namespace Go.Proofs.YtkhbgfnbkdonlaaDoor.Pure
open Go.RowKit Go.Lib Go.Proofs.YtkhbgfnbkdonlaaDoor.QQuo Go.Proofs.YtkhbgfnbkdonlaaDoorW.PrintWords Go.Proofs.YtkhbgfnbkdonlaaDoorW.PrintLast Go.Proofs.YtkhbgfnbkdonlaaDoorW.PrintMore
set_option linter.unusedVariables false
set_option linter.unusedSimpArgs false

theorem B_list (l : List UInt8) : (B l).toList = l := by
  rw [ByteArray.toList_eq]
theorem apart_l0 (a b : ByteArray) (ha : a.size ≤ 100) (hb : b.size ≤ 100) : ∀ (n : Nat) (s : Int), 1 ≤ s → s + n = 5 → Ev (fun k => domesdaylaw03_QuoteApart.l0 k a b s) true
  | 0, s, h1, h2 => Ev.step (f := fun k => some true) (fun k => by rw [domesdaylaw03_QuoteApart.l0, if_neg (by omega)]) (Ev.now true)
  | n + 1, s, h1, h2 => by
    refine Ev.step (f := fun k => (quote_Quote.f k s a).bind fun t133 => ((quote_Quote.f k s b).bind fun t134 => (if ((t133.toList == t134.toList) != (a.toList == b.toList)) = true then (none) else (domesdaylaw03_QuoteApart.l0 k a b (wrap64 (s + 1)))))) (fun k => by rw [domesdaylaw03_QuoteApart.l0, if_pos (by omega)]) ?_
    refine Ev.bind (f := fun k t133 => ((quote_Quote.f k s b).bind fun t134 => (if ((t133.toList == t134.toList) != (a.toList == b.toList)) = true then (none) else (domesdaylaw03_QuoteApart.l0 k a b (wrap64 (s + 1)))))) (quote_ev s a (by omega)) ?_
    refine Ev.bind (f := fun k t134 => (if (((B (quoteL s a (kL a))).toList == t134.toList) != (a.toList == b.toList)) = true then (none) else (domesdaylaw03_QuoteApart.l0 k a b (wrap64 (s + 1))))) (quote_ev s b (by omega)) ?_
    have e : (((B (quoteL s a (kL a))).toList == (B (quoteL s b (kL b))).toList) != (a.toList == b.toList)) = false := by
      by_cases h : a = b
      · subst h; simp
      · have h3 : ¬ quoteL s a (kL a) = quoteL s b (kL b) := fun e => h (quote_inj s a b (by omega) e)
        have h4 : ¬ a.toList = b.toList := fun e => h (by
          have := congrArg (fun l => B l) e
          exact ByteArray.ext (by simpa [ByteArray.toList_eq] using this))
        rw [B_list, B_list]
        have e1 : (quoteL s a (kL a) == quoteL s b (kL b)) = false := by simpa using h3
        have e2 : (a.toList == b.toList) = false := by simpa using h4
        rw [e1, e2]; rfl
    rw [e]
    refine Ev.congr (f := fun k => domesdaylaw03_QuoteApart.l0 k a b (wrap64 (s + 1))) (fun k => by rw [if_neg (by decide)]) ?_
    rw [show wrap64 (s + 1) = s + 1 by unfold wrap64; omega]
    exact apart_l0 a b ha hb n (s + 1) (by omega) (by omega)
theorem QuoteApart (a0 : ByteArray) (a1 : ByteArray) : ∃ k, domesdaylaw03_QuoteApart.f k a0 a1 = some true := by
  refine Ev.rounds ?_
  have hj : Ev (fun k => domesdaylaw03_QuoteApart.j0 k a0 a1 true) true :=
    Ev.step (f := fun k => (domesdaylaw03_awake.f k).bind fun t => some t) (fun k => by rw [domesdaylaw03_QuoteApart.j0, if_pos rfl]) (Ev.bind (f := fun _ t => some t) awake_ev (Ev.now true))
  refine Ev.bind (f := fun k t131 => (if t131 = true then (if (a0.size : Int) > 100 then (domesdaylaw03_QuoteApart.j0 k a0 a1 true) else (domesdaylaw03_QuoteApart.j0 k a0 a1 (decide ((a1.size : Int) > 100)))) else (domesdaylaw03_QuoteApart.j0 k a0 a1 true))) awake_ev ?_
  by_cases h : (a0.size : Int) > 100
  · exact Ev.congr (f := fun k => domesdaylaw03_QuoteApart.j0 k a0 a1 true) (fun k => by rw [if_pos rfl, if_pos h]) hj
  · by_cases h2 : (a1.size : Int) > 100
    · exact Ev.congr (f := fun k => domesdaylaw03_QuoteApart.j0 k a0 a1 true) (fun k => by rw [if_pos rfl, if_neg h, decide_eq_true h2]) hj
    · refine Ev.congr (f := fun k => domesdaylaw03_QuoteApart.j0 k a0 a1 false) (fun k => by rw [if_pos rfl, if_neg h, decide_eq_false h2]) ?_
      refine Ev.step (f := fun k => domesdaylaw03_QuoteApart.l0 k a0 a1 1) (fun k => by rw [domesdaylaw03_QuoteApart.j0, if_neg (by decide)]) ?_
      exact apart_l0 a0 a1 (by omega) (by omega) 4 1 (by omega) (by omega)
end Go.Proofs.YtkhbgfnbkdonlaaDoor.Pure
