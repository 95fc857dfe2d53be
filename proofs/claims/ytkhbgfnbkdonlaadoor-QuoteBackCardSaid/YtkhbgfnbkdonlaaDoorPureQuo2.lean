/- The plain laws of quote: the document's Quote is the program's. -/
import Derived.Test.YtkhbgfnbkdonlaaDoorPureQuo1
namespace Go.Proofs.YtkhbgfnbkdonlaaDoor.Pure
open Go.RowKit Go.Lib Go.Proofs.YtkhbgfnbkdonlaaDoor.QQuo Go.Proofs.YtkhbgfnbkdonlaaDoorW.PrintWords Go.Proofs.YtkhbgfnbkdonlaaDoorW.PrintLast Go.Proofs.YtkhbgfnbkdonlaaDoorW.PrintMore
set_option linter.unusedVariables false
set_option linter.unusedSimpArgs false

theorem rq_l1 (s : ByteArray) (K : List Int) (hs : s.size ≤ 10000) (hK : K.length = s.size) : ∀ (d p : Nat) (out part : List UInt8), p + d = s.size → out.length + 5 * part.length ≤ 40 * p → part.length ≤ 4 * p →
    Ev (fun k => domesdayref03_Quote.l1 k s K (B out) (B part) (p : Int)) (B (out ++ stR part ((zL s K).drop p))) := by
  intro d
  induction d with
  | zero =>
    intro p out part h1 h2 h3
    refine Ev.step (f := fun _ => some (B out)) (fun k => by rw [domesdayref03_Quote.l1, if_neg (by omega)]) ?_
    rw [List.drop_eq_nil_of_le (by rw [z_len s K hK]; omega), stR, List.append_nil]
    exact Ev.now _
  | succ d ih =>
    intro p out part h1 h2 h3
    have hp : p < s.size := by omega
    have hw : Aside0 (wrap64 ((p : Int) + 1) = ((p + 1 : Nat) : Int)) := ⟨by rw [wrap_id _ (by omega) (by omega)]; omega⟩
    have hel := e1_len (ub s p, rd K (p : Int))
    rw [z_at s K hK p hp, stR]
    -- the part, with this byte
    refine Ev.step (f := fun k => domesdayref03_Quote.j4 k s K (B out) (B (part ++ e1 (ub s p, rd K (p : Int)))) (p : Int)) (fun k => ?_) ?_
    · rw [domesdayref03_Quote.l1, if_pos (by omega), if_pos (by omega), if_pos (by omega)]
      by_cases h2k : rd K (p : Int) = 2
      · have he := escL_len (ub s p)
        rw [if_pos h2k, bt_ub s p hp, rescape_f]
        simp only [Option.bind_some]
        rw [if_pos (by rw [B_size, B_size]; omega), B_app, e1, if_pos h2k]
      · rw [if_neg h2k, hw.out, if_pos (by omega), if_pos (by omega), Int.toNat_natCast, Int.toNat_natCast, ext_one s p hp, if_pos (by rw [B_size, B_size]; simp; omega), B_app, e1, if_neg h2k]
    -- is the stretch over?
    refine Ev.step (f := fun k => domesdayref03_Quote.j5 k s K (B out) (B (part ++ e1 (ub s p, rd K (p : Int)))) (p : Int) (brk (rd K (p : Int)) ((zL s K).drop (p + 1)))) (fun k => ?_) ?_
    · rw [domesdayref03_Quote.j4, hw.out]
      by_cases he : p + 1 = s.size
      · rw [if_pos (by omega), List.drop_eq_nil_of_le (by rw [z_len s K hK]; omega)]
        rfl
      · rw [if_neg (by omega), if_pos (by omega), if_pos (by omega), if_pos (by omega), if_pos (by omega), z_at s K hK (p + 1) (by omega)]
        rfl
    by_cases hb : brk (rd K (p : Int)) ((zL s K).drop (p + 1)) = true
    · have hfl := flush_len (rd K (p : Int)) (part ++ e1 (ub s p, rd K (p : Int)))
      rw [List.length_append] at hfl
      rw [if_pos hb, hb, ← List.append_assoc]
      by_cases h2k : rd K (p : Int) = 2
      · have hfe : flush (rd K (p : Int)) (part ++ e1 (ub s p, rd K (p : Int))) = [36, 39] ++ (part ++ e1 (ub s p, rd K (p : Int))) ++ [39] := by unfold flush; rw [if_pos h2k]
        refine Ev.step (f := fun k => domesdayref03_Quote.l1 k s K (B (out ++ flush (rd K (p : Int)) (part ++ e1 (ub s p, rd K (p : Int))))) (B []) ((p + 1 : Nat) : Int)) (fun k => ?_) (ih (p + 1) _ [] (by omega) ?_ (by simp))
        · have hsz : (B (part ++ e1 (ub s p, rd K (p : Int)))).size = part.length + (e1 (ub s p, rd K (p : Int))).length := by rw [B_size, List.length_append]
          have hso : (B out).size = out.length := B_size _
          rw [domesdayref03_Quote.j5, if_pos rfl, if_pos (by omega), if_pos (by omega), if_pos h2k, if_pos (by rw [hsz]; omega), if_pos (by rw [hsz]; omega), if_pos (by rw [hsz, hso]; omega), hw.out, hfe]
          show domesdayref03_Quote.l1 k s K (B out ++ (B [36, 39] ++ B _ ++ B [39])) (B []) _ = _
          rw [B_app, B_app, B_app]
        · rw [List.length_append, List.length_nil]; omega
      · have hfe : flush (rd K (p : Int)) (part ++ e1 (ub s p, rd K (p : Int))) = quotedL (part ++ e1 (ub s p, rd K (p : Int))) := by unfold flush; rw [if_neg h2k]
        have ha := always_ev (B (part ++ e1 (ub s p, rd K (p : Int)))) (by rw [B_size, List.length_append]; omega)
        refine Ev.step (f := fun k => (domesdayref03_Always.f k (B (part ++ e1 (ub s p, rd K (p : Int))))).bind fun t159 => (if (B out).size + t159.size ≤ 9223372036854775807 then (domesdayref03_Quote.l1 k s K (B out ++ t159) (⟨#[]⟩ : ByteArray) (wrap64 ((p : Int) + 1))) else (none))) (fun k => ?_) (Ev.bind (f := fun k t159 => (if (B out).size + t159.size ≤ 9223372036854775807 then (domesdayref03_Quote.l1 k s K (B out ++ t159) (⟨#[]⟩ : ByteArray) (wrap64 ((p : Int) + 1))) else (none))) ha ?_)
        · rw [domesdayref03_Quote.j5, if_pos rfl, if_pos (by omega), if_pos (by omega), if_neg h2k]
        · refine Ev.congr (f := fun k => domesdayref03_Quote.l1 k s K (B (out ++ flush (rd K (p : Int)) (part ++ e1 (ub s p, rd K (p : Int))))) (B []) ((p + 1 : Nat) : Int)) (fun k => ?_) (ih (p + 1) _ [] (by omega) ?_ (by simp))
          · show (if (B out).size + (B (quotedL (part ++ e1 (ub s p, rd K (p : Int))))).size ≤ _ then _ else _) = _
            rw [if_pos (by rw [B_size, B_size, ← hfe]; omega), hw.out, hfe]
            show domesdayref03_Quote.l1 k s K (B out ++ B (quotedL _)) (B []) _ = _
            rw [B_app]
          · rw [List.length_append, List.length_nil]; omega
    · rw [if_neg hb, Bool.eq_false_iff.2 hb]
      refine Ev.step (f := fun k => domesdayref03_Quote.l1 k s K (B out) (B (part ++ e1 (ub s p, rd K (p : Int)))) ((p + 1 : Nat) : Int)) (fun k => by rw [domesdayref03_Quote.j5, if_neg (by decide), hw.out]) (ih (p + 1) out _ (by omega) ?_ ?_)
      · rw [List.length_append]; omega
      · rw [List.length_append]; omega
theorem rq_l2s (style : Int) (sg : List UInt8) (hst : (style = 4 ∧ sg = [34, 92]) ∨ (style = 5 ∧ sg = [32, 92])) (s : ByteArray) (K : List Int) (hs : s.size ≤ 10000) (hK : K.length = s.size) (p : Nat) (hp : p < s.size) (out : List UInt8) (ho : out.length ≤ 4 * p) (k : Nat) :
    domesdayref03_Quote.l2 (k + 1) style s K (B out) (p : Int) = domesdayref03_Quote.l2 k style s K (B (out ++ c1 sg (ub s p, rd K (p : Int)))) ((p + 1 : Nat) : Int) := by
  have hw : Aside0 (wrap64 ((p : Int) + 1) = ((p + 1 : Nat) : Int)) := ⟨by rw [wrap_id _ (by omega) (by omega)]; omega⟩
  have hso : (B out).size = out.length := B_size _
  have hs1 : (B [ub s p]).size = 1 := B_size _
  have u92 := ub_eq s p hp 92 (by decide)
  have u34 := ub_eq s p hp 34 (by decide)
  have u32 := ub_eq s p hp 32 (by decide)
  rw [domesdayref03_Quote.l2, if_pos (by omega), if_pos (by omega), if_pos (by omega)]
  by_cases h2k : rd K (p : Int) = 2
  · have he := escL_len (ub s p)
    rw [if_pos h2k, bt_ub s p hp, rescape_f]
    simp only [Option.bind_some]
    rw [if_pos (by rw [hso, B_size]; omega), B_app, hw.out, c1, if_pos h2k]
  · rw [if_neg h2k, hw.out, Int.toNat_natCast, Int.toNat_natCast, ext_one s p hp]
    have plainE : (if (p : Int) ≤ ((p + 1 : Nat) : Int) then (if ((p + 1 : Nat) : Int) ≤ (s.size : Int) then (if (B out).size + (B [ub s p]).size ≤ 9223372036854775807 then (domesdayref03_Quote.l2 k style s K (B out ++ B [ub s p]) ((p + 1 : Nat) : Int)) else (none)) else (none)) else (none)) = domesdayref03_Quote.l2 k style s K (B (out ++ [ub s p])) ((p + 1 : Nat) : Int) := by
      rw [if_pos (by omega), if_pos (by omega), if_pos (by rw [hso, hs1]; omega), B_app]
    have escE : (if (B out).size + 1 ≤ 9223372036854775807 then (if (p : Int) ≤ ((p + 1 : Nat) : Int) then (if ((p + 1 : Nat) : Int) ≤ (s.size : Int) then (if (B out).size + 1 + (B [ub s p]).size ≤ 9223372036854775807 then (domesdayref03_Quote.l2 k style s K ((B out ++ (⟨#[92]⟩ : ByteArray)) ++ B [ub s p]) ((p + 1 : Nat) : Int)) else (none)) else (none)) else (none)) else (none)) = domesdayref03_Quote.l2 k style s K (B (out ++ [92, ub s p])) ((p + 1 : Nat) : Int) := by
      rw [if_pos (by rw [hso]; omega), if_pos (by omega), if_pos (by omega), if_pos (by rw [hso, hs1]; omega)]
      show domesdayref03_Quote.l2 k style s K (B out ++ B [92] ++ B [ub s p]) _ = _
      rw [B_app, B_app, List.append_assoc]
      rfl
    rw [escE, plainE, c1, if_neg h2k]
    show _ = domesdayref03_Quote.l2 k style s K (B (out ++ if ub s p ∈ sg then [92, ub s p] else [ub s p])) _
    by_cases a92 : bt s (p : Int) = ((92 : Nat) : Int)
    · rw [if_pos (show bt s (p : Int) = 92 from a92), if_pos (by rw [u92.1 a92]; rcases hst with ⟨_, rfl⟩ | ⟨_, rfl⟩ <;> decide)]
    · rw [if_neg (show ¬ bt s (p : Int) = 92 from a92)]
      have n92 : ub s p ≠ 92 := fun h => a92 (u92.2 h)
      rcases hst with ⟨rfl, rfl⟩ | ⟨rfl, rfl⟩
      · by_cases a34 : bt s (p : Int) = ((34 : Nat) : Int)
        · rw [if_pos (show bt s (p : Int) = 34 from a34), if_pos rfl, if_pos (by rw [u34.1 a34]; decide)]
        · have n34 : ub s p ≠ 34 := fun h => a34 (u34.2 h)
          rw [if_neg (show ¬ bt s (p : Int) = 34 from a34), if_neg (show ¬ (ub s p ∈ [34, 92]) from by simp [n34, n92])]
          by_cases a32 : bt s (p : Int) = 32
          · rw [if_pos a32, if_neg (by decide)]
          · rw [if_neg a32]
      · by_cases a34 : bt s (p : Int) = ((34 : Nat) : Int)
        · have hc : ub s p = 34 := u34.1 a34
          rw [if_pos (show bt s (p : Int) = 34 from a34), if_neg (by decide), if_neg (show ¬ bt s (p : Int) = 32 from by rw [a34]; decide), if_neg (show ¬ (ub s p ∈ [32, 92]) from by rw [hc]; decide)]
        · rw [if_neg (show ¬ bt s (p : Int) = 34 from a34)]
          by_cases a32 : bt s (p : Int) = ((32 : Nat) : Int)
          · rw [if_pos (show bt s (p : Int) = 32 from a32), if_pos rfl, if_pos (by rw [u32.1 a32]; decide)]
          · have n32 : ub s p ≠ 32 := fun h => a32 (u32.2 h)
            rw [if_neg (show ¬ bt s (p : Int) = 32 from a32), if_neg (show ¬ (ub s p ∈ [32, 92]) from by simp [n32, n92])]
theorem rq_l2 (style : Int) (sg : List UInt8) (hst : (style = 4 ∧ sg = [34, 92]) ∨ (style = 5 ∧ sg = [32, 92])) (s : ByteArray) (K : List Int) (hs : s.size ≤ 10000) (hK : K.length = s.size) : ∀ (d p : Nat) (out : List UInt8), p + d = s.size → out.length ≤ 4 * p →
    Ev (fun k => domesdayref03_Quote.l2 k style s K (B out) (p : Int)) (B ((if style = 4 then [34] ++ (out ++ inCL sg ((zL s K).drop p)) ++ [34] else out ++ inCL sg ((zL s K).drop p)))) := by
  intro d
  induction d with
  | zero =>
    intro p out h1 h2
    have hso : (B out).size = out.length := B_size _
    rw [List.drop_eq_nil_of_le (by rw [z_len s K hK]; omega)]
    have hn : inCL sg [] = [] := rfl
    rw [hn, List.append_nil]
    by_cases h4 : style = 4
    · rw [if_pos h4]
      refine Ev.step (f := fun _ => some (B ([34] ++ out ++ [34]))) (fun k => ?_) (Ev.now _)
      rw [domesdayref03_Quote.l2, if_neg (by omega), if_pos h4, if_pos (by rw [hso]; omega), if_pos (by rw [hso]; omega)]
      show some (B [34] ++ B out ++ B [34]) = _
      rw [B_app, B_app]
    · rw [if_neg h4]
      exact Ev.step (f := fun _ => some (B out)) (fun k => by rw [domesdayref03_Quote.l2, if_neg (by omega), if_neg h4]) (Ev.now _)
  | succ d ih =>
    intro p out h1 h2
    have hp : p < s.size := by omega
    have hcl := c1_len sg (ub s p, rd K (p : Int))
    refine Ev.step (f := fun k => domesdayref03_Quote.l2 k style s K (B (out ++ c1 sg (ub s p, rd K (p : Int)))) ((p + 1 : Nat) : Int)) (fun k => rq_l2s style sg hst s K hs hK p hp out h2 k) ?_
    have := ih (p + 1) (out ++ c1 sg (ub s p, rd K (p : Int))) (by omega) (by rw [List.length_append]; omega)
    rw [z_at s K hK p hp, show inCL sg ((ub s p, rd K (p : Int)) :: (zL s K).drop (p + 1)) = c1 sg (ub s p, rd K (p : Int)) ++ inCL sg ((zL s K).drop (p + 1)) from List.flatMap_cons ..]
    rw [List.append_assoc out] at this
    exact this
/-- The loop over the kinds: are all plain, is some hard? -/
theorem rq_l0 (style : Int) (s : ByteArray) (K : List Int) (hl : K.length ≤ 100000) (r : ByteArray) : ∀ (d i : Nat) (x6 x7 : Bool), i + d = K.length →
    Ev (fun k => (if style = 0 then (domesdayref03_Quote.j1 k style s K (x7 || (K.drop i).any (· == 2)) true) else (if style = 1 then (domesdayref03_Quote.j1 k style s K (x7 || (K.drop i).any (· == 2)) (x6 && (K.drop i).all (· == 1))) else (if style = 3 then (domesdayref03_Quote.j1 k style s K (x7 || (K.drop i).any (· == 2)) (x6 && (K.drop i).all (· == 1))) else (domesdayref03_Quote.j1 k style s K (x7 || (K.drop i).any (· == 2)) false))))) r →
    Ev (fun k => domesdayref03_Quote.l0 k style s K x6 x7 (i : Int)) r := by
  intro d
  induction d with
  | zero =>
    intro i x6 x7 h hr
    rw [List.drop_eq_nil_of_le (by omega)] at hr
    simp only [List.any_nil, List.all_nil, Bool.or_false, Bool.and_true] at hr
    refine Ev.step (fun k => ?_) hr
    rw [domesdayref03_Quote.l0, if_neg (by omega)]
  | succ d ih =>
    intro i x6 x7 h hr
    have hi : i < K.length := by omega
    rw [List.drop_eq_getElem_cons hi, List.any_cons, List.all_cons, ← Bool.or_assoc, ← Bool.and_assoc] at hr
    refine Ev.step (f := fun k => domesdayref03_Quote.l0 k style s K (x6 && (K[i] == 1)) (x7 || (K[i] == 2)) ((i + 1 : Nat) : Int)) (fun k => ?_) (ih (i + 1) _ _ (by omega) hr)
    rw [domesdayref03_Quote.l0, if_pos (by omega), rd_at K i hi, wrap_id _ (by omega) (by omega), show (i : Int) + 1 = ((i + 1 : Nat) : Int) from by omega]
    have h0i : (0 : Int) ≤ (i : Int) := by omega
    cases x6 <;> cases x7 <;> simp [h0i]
theorem rquote_ev (style : Int) (s : ByteArray) (hs : s.size ≤ 10000) : Ev (fun k => domesdayref03_Quote.f k style s) (B (quoteL style s (kL s))) := by
  have hK := kL_len s
  refine Ev.bind (f := fun k t147 => domesdayref03_Quote.l0 k style s t147 (decide ((s.size : Int) > 0)) false 0) (rkinds_ev s (by omega)) ?_
  generalize kL s = K at *
  refine rq_l0 style s K (by omega) _ K.length 0 _ _ (by omega) ?_
  rw [List.drop_zero]
  have hP : (decide ((s.size : Int) > 0) && K.all (· == 1)) = allP K := by
    unfold allP
    congr 1
    rw [hK]
    by_cases h : 0 < s.size
    · rw [decide_eq_true h, decide_eq_true (by omega)]
    · rw [decide_eq_false h, decide_eq_false (by omega)]
  rw [hP, Bool.false_or]
  have hH : K.any (· == 2) = someH K := rfl
  rw [hH]
  have always : Ev (fun k => domesdayref03_Quote.j2 k style s K true) (B (quotedL (bl s))) := Ev.step (f := fun k => (domesdayref03_Always.f k s).bind fun t => some t) (fun k => by rw [domesdayref03_Quote.j2, if_pos rfl]) (Ev.bind (f := fun _ t => some t) (always_ev s (by omega)) (Ev.now _))
  have plain : ∀ x, Ev (fun k => domesdayref03_Quote.j1 k style s K x true) (B (bl s)) := fun x => Ev.step (f := fun _ => some s) (fun k => by rw [domesdayref03_Quote.j1, if_pos rfl]) (by rw [B_bl]; exact Ev.now s)
  unfold quoteL
  by_cases h0 : style = 0
  · rw [if_pos h0]
    exact Ev.congr (f := fun k => domesdayref03_Quote.j1 k style s K (someH K) true) (fun k => by rw [if_pos h0]) (plain _)
  rw [if_neg h0]
  by_cases h4 : style = 4
  · rw [if_pos h4]
    refine Ev.congr (f := fun k => domesdayref03_Quote.j1 k style s K (someH K) false) (fun k => by rw [if_neg h0, if_neg (by omega), if_neg (by omega)]) ?_
    refine Ev.step (f := fun k => domesdayref03_Quote.j2 k style s K false) (fun k => by rw [domesdayref03_Quote.j1, if_neg (by decide), if_neg (by omega), if_neg (by omega), if_neg (by omega)]) ?_
    refine Ev.step (f := fun k => domesdayref03_Quote.j6 k style s K (B []) false) (fun k => by rw [domesdayref03_Quote.j2, if_neg (by decide), if_neg (by omega), if_pos h4]) ?_
    refine Ev.step (f := fun k => domesdayref03_Quote.l2 k style s K (B []) ((0 : Nat) : Int)) (fun k => by rw [domesdayref03_Quote.j6, if_neg (by decide)]; rfl) ?_
    have := rq_l2 style [34, 92] (.inl ⟨h4, rfl⟩) s K hs hK s.size 0 [] (by omega) (by simp)
    rw [if_pos h4, List.nil_append, List.drop_zero] at this
    exact this
  rw [if_neg h4]
  by_cases h5 : style = 5
  · rw [if_pos h5]
    refine Ev.congr (f := fun k => domesdayref03_Quote.j1 k style s K (someH K) false) (fun k => by rw [if_neg h0, if_neg (by omega), if_neg (by omega)]) ?_
    refine Ev.step (f := fun k => domesdayref03_Quote.j2 k style s K false) (fun k => by rw [domesdayref03_Quote.j1, if_neg (by decide), if_neg (by omega), if_neg (by omega), if_neg (by omega)]) ?_
    refine Ev.step (f := fun k => domesdayref03_Quote.j6 k style s K (B []) false) (fun k => by rw [domesdayref03_Quote.j2, if_neg (by decide), if_neg (by omega), if_neg h4, show (style != 5) = false from by rw [h5]; rfl]) ?_
    refine Ev.step (f := fun k => domesdayref03_Quote.l2 k style s K (B []) ((0 : Nat) : Int)) (fun k => by rw [domesdayref03_Quote.j6, if_neg (by decide)]; rfl) ?_
    have := rq_l2 style [32, 92] (.inr ⟨h5, rfl⟩) s K hs hK s.size 0 [] (by omega) (by simp)
    rw [if_neg h4, List.nil_append, List.drop_zero] at this
    exact this
  rw [if_neg h5]
  by_cases h2 : style = 2
  · rw [if_pos h2]
    refine Ev.congr (f := fun k => domesdayref03_Quote.j1 k style s K (someH K) false) (fun k => by rw [if_neg h0, if_neg (by omega), if_neg (by omega)]) ?_
    exact Ev.step (f := fun k => domesdayref03_Quote.j2 k style s K true) (fun k => by rw [domesdayref03_Quote.j1, if_neg (by decide), if_neg (by omega), if_pos h2]) always
  rw [if_neg h2]
  by_cases h13 : style = 1 ∨ style = 3
  · rw [if_pos h13]
    refine Ev.congr (f := fun k => domesdayref03_Quote.j1 k style s K (someH K) (allP K)) (fun k => ?_) ?_
    · rw [if_neg h0]
      by_cases h1 : style = 1
      · rw [if_pos h1]
      · rw [if_neg h1, if_pos (by omega)]
    by_cases ha : allP K = true
    · rw [if_pos ha, ha]
      exact plain _
    · rw [if_neg ha, Bool.eq_false_iff.2 ha]
      by_cases h1 : style = 1
      · rw [if_neg (fun h => by omega)]
        exact Ev.step (f := fun k => domesdayref03_Quote.j2 k style s K true) (fun k => by rw [domesdayref03_Quote.j1, if_neg (by decide), if_pos h1]) always
      · have h3 : style = 3 := by omega
        by_cases hh : someH K = true
        · rw [if_pos ⟨h3, hh⟩, hh]
          refine Ev.step (f := fun k => domesdayref03_Quote.j2 k style s K false) (fun k => by rw [domesdayref03_Quote.j1, if_neg (by decide), if_neg h1, if_neg h2, if_pos h3]; rfl) ?_
          refine Ev.step (f := fun k => domesdayref03_Quote.l1 k s K (B []) (B []) ((0 : Nat) : Int)) (fun k => by rw [domesdayref03_Quote.j2, if_neg (by decide), if_pos h3]; rfl) ?_
          have := rq_l1 s K hs hK s.size 0 [] [] (by omega) (by simp) (by simp)
          rw [List.nil_append, List.drop_zero] at this
          exact this
        · rw [if_neg (fun h => hh h.2), Bool.eq_false_iff.2 hh]
          exact Ev.step (f := fun k => domesdayref03_Quote.j2 k style s K true) (fun k => by rw [domesdayref03_Quote.j1, if_neg (by decide), if_neg h1, if_neg h2, if_pos h3]; rfl) always
  · rw [if_neg h13]
    refine Ev.congr (f := fun k => domesdayref03_Quote.j1 k style s K (someH K) false) (fun k => by rw [if_neg h0, if_neg (by omega), if_neg (by omega)]) ?_
    refine Ev.step (f := fun k => domesdayref03_Quote.j2 k style s K false) (fun k => by rw [domesdayref03_Quote.j1, if_neg (by decide), if_neg (by omega), if_neg (by omega), if_neg (by omega)]) ?_
    refine Ev.step (f := fun k => domesdayref03_Quote.j6 k style s K (B []) true) (fun k => by rw [domesdayref03_Quote.j2, if_neg (by decide), if_neg (by omega), if_neg h4, show (style != 5) = true from bne_iff_ne.2 h5]) ?_
    exact Ev.step (f := fun _ => some (⟨#[]⟩ : ByteArray)) (fun k => by rw [domesdayref03_Quote.j6, if_pos rfl]) (Ev.now _)
end Go.Proofs.YtkhbgfnbkdonlaaDoor.Pure
