/- P3.4: what is quoted is read as it was. -/
import Derived.Test.YtkhbgfnbkdonlaaDoorPureC
import Derived.Test.YtkhbgfnbkdonlaaDoorPureQuoteClean
import Derived.Test.YtkhbgfnbkdonlaaDoorQBack
namespace Go.Proofs.YtkhbgfnbkdonlaaDoor.Pure
open Go.RowKit Go.Lib Go.Proofs.YtkhbgfnbkdonlaaDoor.QQuo Go.Proofs.YtkhbgfnbkdonlaaDoorW.PrintWords Go.Proofs.YtkhbgfnbkdonlaaDoorW.PrintLast Go.Proofs.YtkhbgfnbkdonlaaDoorW.PrintMore
set_option linter.unusedVariables false
set_option linter.unusedSimpArgs false

theorem sh_back (style : Int) (s : ByteArray) (hs : s.size ≤ 200) (hst : style = 1 ∨ style = 2 ∨ style = 3) : quote_Shell.f (B (quoteL style s (kL s))) = some (s, true) := by
  have hl := quoteL_len style s
  have hb := shell_back style s hst (B (quoteL style s (kL s))) (bl_B _)
  unfold quote_Shell.f
  rw [if_pos (by rw [B_size]; omega)]
  unfold quote_Shell.R
  have hne : ¬ (B (quoteL style s (kL s))).size = 0 := by
    intro h0
    rw [B_size] at h0
    have hnil : quoteL style s (kL s) = [] := List.eq_nil_of_length_eq_zero h0
    have he : kL (B (quoteL style s (kL s))) = kL (B []) := by rw [hnil]
    rw [hnil] at hb
    have h1 : shF 0 (zL (B []) (kL (B []))) [] = some [] := by
      have : zL (B []) (kL (B [])) = [] := rfl
      rw [this, shF, if_pos rfl]
    rw [h1] at hb
    have h2 : bl s = [] := (Option.some.inj hb).symm
    have h3 : s = B [] := by rw [← B_bl s, h2]
    rw [h3] at hnil
    rcases hst with rfl | rfl | rfl
    · exact absurd hnil (by decide)
    · exact absurd hnil (by decide)
    · exact absurd hnil (by decide)
  rw [if_neg hne, hb]
  show some (B (bl s), true) = _
  rw [B_bl]
theorem c_back' (s : ByteArray) : cR (B (quoteL 4 s (kL s))) = (s, true) := by
  have hq : quoteL 4 s (kL s) = 34 :: (inCL [34, 92] (zL s (kL s)) ++ [34]) := by
    unfold quoteL
    rw [if_neg (by decide), if_pos rfl]
    rfl
  rw [hq]
  generalize hL : inCL [34, 92] (zL s (kL s)) = L
  have hsz : (B (34 :: (L ++ [34]))).size = L.length + 2 := by rw [B_size]; simp
  unfold cR
  rw [if_neg (by omega)]
  have u0 : ub (B (34 :: (L ++ [34]))) 0 = 34 := rfl
  have u1 : ub (B (34 :: (L ++ [34]))) ((B (34 :: (L ++ [34]))).size - 1) = 34 := by
    rw [hsz]
    show (34 :: (L ++ [34])).getD (L.length + 2 - 1) 0 = 34
    rw [show L.length + 2 - 1 = L.length + 1 by omega]
    simp
  rw [if_pos ⟨u0, u1⟩, hsz, bl_B]
  have e : (List.drop 1 (34 :: (L ++ [34]))).take (L.length + 2 - 2) = L := by
    rw [show L.length + 2 - 2 = L.length by omega]
    show (L ++ [34]).take L.length = L
    simp
  rw [e, ← hL, c_back, List.nil_append, z_map]
  show (B (bl s), true) = _
  rw [B_bl]
theorem QuoteBack (a0 : ByteArray) : ∃ k, domesdaylaw03_QuoteBack.f k a0 = some true := by
  refine Ev.rounds ?_
  refine Ev.bind (f := fun k t147 => (if t147 = true then (domesdaylaw03_QuoteBack.j0 k a0 (decide ((a0.size : Int) > 200))) else (domesdaylaw03_QuoteBack.j0 k a0 true))) awake_ev ?_
  refine Ev.congr (f := fun k => domesdaylaw03_QuoteBack.j0 k a0 (decide ((a0.size : Int) > 200))) (fun k => by rw [if_pos rfl]) ?_
  by_cases h : (a0.size : Int) > 200
  · rw [decide_eq_true h]
    exact Ev.step (f := fun k => (domesdaylaw03_awake.f k).bind fun t => some t) (fun k => by rw [domesdaylaw03_QuoteBack.j0, if_pos rfl]) (Ev.bind (f := fun _ t => some t) awake_ev (Ev.now true))
  · rw [decide_eq_false h]
    have hs : a0.size ≤ 200 := by omega
    have q4 := quoteL_len 4 a0
    refine Ev.step (f := fun k => ((quote_Quote.f k 2 a0).bind fun t149 => ((quote_Shell.f t149).bind fun bt150 => ((quote_Quote.f k 3 a0).bind fun t152 => ((quote_Shell.f t152).bind fun bt153 => ((quote_Quote.f k 4 a0).bind fun t155 => ((quote_C.f k t155).bind fun bt156 => ((quote_Quote.f k 1 a0).bind fun t158 => ((quote_Shell.f t158).bind fun bt159 => (if bt150.2 = true then (if bt150.1.toList = a0.toList then (if bt153.2 = true then (if bt153.1.toList = a0.toList then (if bt156.2 = true then (if bt156.1.toList = a0.toList then (if bt159.2 = true then (some (bt159.1.toList == a0.toList)) else (none)) else (none)) else (none)) else (none)) else (none)) else (none)) else (none))))))))))) (fun k => by rw [domesdaylaw03_QuoteBack.j0, if_neg (by decide)]) ?_
    refine Ev.bind (f := fun k t149 => ((quote_Shell.f t149).bind fun bt150 => ((quote_Quote.f k 3 a0).bind fun t152 => ((quote_Shell.f t152).bind fun bt153 => ((quote_Quote.f k 4 a0).bind fun t155 => ((quote_C.f k t155).bind fun bt156 => ((quote_Quote.f k 1 a0).bind fun t158 => ((quote_Shell.f t158).bind fun bt159 => (if bt150.2 = true then (if bt150.1.toList = a0.toList then (if bt153.2 = true then (if bt153.1.toList = a0.toList then (if bt156.2 = true then (if bt156.1.toList = a0.toList then (if bt159.2 = true then (some (bt159.1.toList == a0.toList)) else (none)) else (none)) else (none)) else (none)) else (none)) else (none)) else (none)))))))))) (quote_ev 2 a0 (by omega)) ?_
    rw [sh_back 2 a0 hs (by omega)]
    refine Ev.congr (f := fun k => ((quote_Quote.f k 3 a0).bind fun t152 => ((quote_Shell.f t152).bind fun bt153 => ((quote_Quote.f k 4 a0).bind fun t155 => ((quote_C.f k t155).bind fun bt156 => ((quote_Quote.f k 1 a0).bind fun t158 => ((quote_Shell.f t158).bind fun bt159 => (if bt153.2 = true then (if bt153.1.toList = a0.toList then (if bt156.2 = true then (if bt156.1.toList = a0.toList then (if bt159.2 = true then (some (bt159.1.toList == a0.toList)) else (none)) else (none)) else (none)) else (none)) else (none))))))))) (fun k => by simp) ?_
    refine Ev.bind (f := fun k t152 => ((quote_Shell.f t152).bind fun bt153 => ((quote_Quote.f k 4 a0).bind fun t155 => ((quote_C.f k t155).bind fun bt156 => ((quote_Quote.f k 1 a0).bind fun t158 => ((quote_Shell.f t158).bind fun bt159 => (if bt153.2 = true then (if bt153.1.toList = a0.toList then (if bt156.2 = true then (if bt156.1.toList = a0.toList then (if bt159.2 = true then (some (bt159.1.toList == a0.toList)) else (none)) else (none)) else (none)) else (none)) else (none)))))))) (quote_ev 3 a0 (by omega)) ?_
    rw [sh_back 3 a0 hs (by omega)]
    refine Ev.congr (f := fun k => ((quote_Quote.f k 4 a0).bind fun t155 => ((quote_C.f k t155).bind fun bt156 => ((quote_Quote.f k 1 a0).bind fun t158 => ((quote_Shell.f t158).bind fun bt159 => (if bt156.2 = true then (if bt156.1.toList = a0.toList then (if bt159.2 = true then (some (bt159.1.toList == a0.toList)) else (none)) else (none)) else (none))))))) (fun k => by simp) ?_
    refine Ev.bind (f := fun k t155 => ((quote_C.f k t155).bind fun bt156 => ((quote_Quote.f k 1 a0).bind fun t158 => ((quote_Shell.f t158).bind fun bt159 => (if bt156.2 = true then (if bt156.1.toList = a0.toList then (if bt159.2 = true then (some (bt159.1.toList == a0.toList)) else (none)) else (none)) else (none)))))) (quote_ev 4 a0 (by omega)) ?_
    refine Ev.bind (f := fun k bt156 => ((quote_Quote.f k 1 a0).bind fun t158 => ((quote_Shell.f t158).bind fun bt159 => (if bt156.2 = true then (if bt156.1.toList = a0.toList then (if bt159.2 = true then (some (bt159.1.toList == a0.toList)) else (none)) else (none)) else (none))))) (c_ev (B (quoteL 4 a0 (kL a0))) (by rw [B_size]; omega)) ?_
    rw [c_back']
    refine Ev.bind (f := fun k t158 => ((quote_Shell.f t158).bind fun bt159 => (if ((a0, true) : ByteArray × Bool).2 = true then (if ((a0, true) : ByteArray × Bool).1.toList = a0.toList then (if bt159.2 = true then (some (bt159.1.toList == a0.toList)) else (none)) else (none)) else (none)))) (quote_ev 1 a0 (by omega)) ?_
    rw [sh_back 1 a0 hs (by omega)]
    exact Ev.congr (f := fun k => some true) (fun k => by simp) (Ev.now true)
end Go.Proofs.YtkhbgfnbkdonlaaDoor.Pure
