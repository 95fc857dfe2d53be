/- P3.5: of any text: what a shell, and C, read of it is the chapter's (200 bytes). -/
import Derived.Test.YtkhbgfnbkdonlaaDoorPureRef
import Derived.Test.YtkhbgfnbkdonlaaDoorQReads
namespace Go.Proofs.YtkhbgfnbkdonlaaDoor.Pure
open Go.RowKit Go.Lib Go.Proofs.YtkhbgfnbkdonlaaDoor.QQuo Go.Proofs.YtkhbgfnbkdonlaaDoorW.PrintWords Go.Proofs.YtkhbgfnbkdonlaaDoorW.PrintLast Go.Proofs.YtkhbgfnbkdonlaaDoorW.PrintMore
set_option linter.unusedVariables false
set_option linter.unusedSimpArgs false

theorem awake_ev2 : Ev (fun k => domesdaylaw03_awake.f k) true := by
  have hq : quoteL 3 (B [97, 32, 98, 10]) (kL (B [97, 32, 98, 10])) = [39, 97, 32, 98, 39, 36, 39, 92, 110, 39] := by decide +kernel
  have h := quote_ev 3 (B [97, 32, 98, 10]) (by decide)
  rw [hq] at h
  refine Ev.bind (f := fun _ t130 => (some (t130.toList == ([39, 97, 32, 98, 39, 36, 39, 92, 110, 39] : List UInt8)))) h ?_
  have e : ((B [39, 97, 32, 98, 39, 36, 39, 92, 110, 39]).toList == ([39, 97, 32, 98, 39, 36, 39, 92, 110, 39] : List UInt8)) = true := by decide +kernel
  rw [e]
  exact Ev.now true
theorem rs_l0 (s : ByteArray) (hs : s.size ≤ 100000) (h0 : s.size ≠ 0) : ∀ (m p st : Nat) (acc : List UInt8), s.size ≤ p + m → p ≤ s.size → acc.length ≤ p → st ≤ 2 →
    Ev (fun k => domesdayref03_Shell.l0 k s (ac acc) (kL s) (st : Int) (p : Int)) (resOf (shF st ((zL s (kL s)).drop p) acc))
  | m, p, st, acc, hm, hp, ha, hst => by
    have hnil : ¬ s.toList = ([] : List UInt8) := by
      rw [toList_bl]
      intro e
      have := len_list s
      rw [show s.data.toList = [] from e] at this
      exact h0 this.symm
    by_cases hlt : p < s.size
    · match m, hm with
      | 0, hm => omega
      | m + 1, hm =>
      have hz := z_at s (kL s) (kL_len s) p hlt
      have hub := bt_ub s p hlt
      have hw : wrap64 ((p : Int) + 1) = ((p + 1 : Nat) : Int) := wrap_id _ (by omega) (by omega)
      have hw2 : wrap64 (((p + 1 : Nat) : Int) + 1) = ((p + 2 : Nat) : Int) := wrap_id _ (by omega) (by omega)
      have hal : (ac acc).length < 140737488355328 := by rw [ac_len]; omega
      have hkl := kL_len s
      have key : ∀ nx : Int, ((nx == 39) = hd39 ((zL s (kL s)).drop (p + 1))) → (hd39 ((zL s (kL s)).drop (p + 1)) = true → p + 2 ≤ s.size) → Ev (fun k => domesdayref03_Shell.j1 k s (ac acc) (kL s) (st : Int) (p : Int) ((ub s p).toNat : Int) nx) (resOf (shF st ((zL s (kL s)).drop p) acc)) := by
        intro nx hnx hlt2
        rw [hz]
        have hk := asc_zL s
        have hmem : (ub s p, rd (kL s) (p : Int)) ∈ zL s (kL s) := by
          have : (ub s p, rd (kL s) (p : Int)) ∈ (zL s (kL s)).drop p := by rw [hz]; simp
          exact List.mem_of_mem_drop this
        have hnk : (ub s p = 39 ∨ ub s p = 36 ∨ ub s p = 92) → rd (kL s) (p : Int) ≠ 1 := by
          intro hc
          have : Asc ((ub s p, rd (kL s) (p : Int)) :: []) := by
            intro q hq
            rw [List.mem_singleton.1 hq]
            exact hk _ hmem
          exact asc_ne this hc
        have u36 := u8_iff (ub s p) 36 36 rfl
        have u36' : ((ub s p).toNat : Int) = 36 ↔ ub s p = 36 := u36
        have u39 := u8_39 (ub s p)
        have u92 := u8_92 (ub s p)
        have fail : Ev (fun k => (some ((⟨#[]⟩ : ByteArray), false) : Option (ByteArray × Bool))) (resOf none) := Ev.now _
        have go0 : ∀ (q st' : Nat) (acc' : List UInt8), p < q → q ≤ s.size → acc'.length ≤ q → st' ≤ 2 → Ev (fun k => domesdayref03_Shell.l0 k s (ac acc') (kL s) (st' : Int) (q : Int)) (resOf (shF st' ((zL s (kL s)).drop q) acc')) := fun q st' acc' h1 h2 h3 h4 => rs_l0 s hs h0 m q st' acc' (by omega) h2 h3 h4
        match st, hst with
        | 0, _ =>
          rw [shF, if_pos rfl]
          have j3 : ∀ b : Bool, (b = true → ub s p = 92 ∧ hd39 ((zL s (kL s)).drop (p + 1)) = true) → (ub s p = 92 ∧ hd39 ((zL s (kL s)).drop (p + 1)) = true → b = true) → ¬ (ub s p = 36 ∧ hd39 ((zL s (kL s)).drop (p + 1)) = true) → ub s p ≠ 39 →
              Ev (fun k => domesdayref03_Shell.j3 k s (ac acc) (kL s) 0 (p : Int) ((ub s p).toNat : Int) b) (resOf (if rd (kL s) (p : Int) = 1 then shF 0 ((zL s (kL s)).drop (p + 1)) (acc ++ [ub s p]) else if ub s p = 92 ∧ hd39 ((zL s (kL s)).drop (p + 1)) = true then shF 0 (((zL s (kL s)).drop (p + 1)).drop 1) (acc ++ [39]) else if ub s p = 36 ∧ hd39 ((zL s (kL s)).drop (p + 1)) = true then shF 2 (((zL s (kL s)).drop (p + 1)).drop 1) acc else if ub s p = 39 then shF 1 ((zL s (kL s)).drop (p + 1)) acc else none)) := by
            intro b hb1 hb2 n36 n39
            cases b with
            | true =>
              have hh := hb1 rfl
              rw [if_neg (hnk (.inr (.inr hh.1))), if_pos hh, List.drop_drop]
              refine Ev.step (f := fun k => domesdayref03_Shell.l0 k s (ac acc ++ [39]) (kL s) 0 ((p + 2 : Nat) : Int)) (fun k => by rw [domesdayref03_Shell.j3, if_pos rfl, if_pos hal, hw, hw2]) ?_
              rw [show ac acc ++ [39] = ac (acc ++ [39]) from ac_one acc 39]
              exact go0 (p + 2) 0 (acc ++ [39]) (by omega) (hlt2 hh.2) (by simp; omega) (by omega)
            | false =>
              have n92 : ¬ (ub s p = 92 ∧ hd39 ((zL s (kL s)).drop (p + 1)) = true) := fun h => Bool.noConfusion (hb2 h)
              by_cases g : rd (kL s) (p : Int) = 1
              · rw [if_pos g]
                refine Ev.step (f := fun k => domesdayref03_Shell.l0 k s (ac acc ++ [((ub s p).toNat : Int)]) (kL s) 0 ((p + 1 : Nat) : Int)) (fun k => by rw [domesdayref03_Shell.j3, if_neg (by decide), if_pos (by omega), if_pos (by omega), if_pos g, if_pos hal, hw]) ?_
                rw [ac_one]
                exact go0 (p + 1) 0 (acc ++ [ub s p]) (by omega) (by omega) (by simp; omega) (by omega)
              · rw [if_neg g, if_neg n92, if_neg n36, if_neg n39]
                exact Ev.step (f := fun k => some ((⟨#[]⟩ : ByteArray), false)) (fun k => by rw [domesdayref03_Shell.j3, if_neg (by decide), if_pos (by omega), if_pos (by omega), if_neg g]) fail
          by_cases g39 : ub s p = 39
          · rw [if_neg (hnk (.inl g39)), if_neg (fun h => n39_92 (g39.symm.trans h.1)), if_neg (fun h => n39_36 (g39.symm.trans h.1)), if_pos g39]
            refine Ev.step (f := fun k => domesdayref03_Shell.l0 k s (ac acc) (kL s) 1 ((p + 1 : Nat) : Int)) (fun k => by rw [domesdayref03_Shell.j1, if_pos (by omega), if_pos (u39.2 g39), hw]) ?_
            exact go0 (p + 1) 1 acc (by omega) (by omega) (by omega) (by omega)
          · have c39 : ¬ ((ub s p).toNat : Int) = 39 := fun e => g39 (u39.1 e)
            by_cases g36 : ub s p = 36 ∧ hd39 ((zL s (kL s)).drop (p + 1)) = true
            · rw [if_neg (hnk (.inr (.inl g36.1))), if_neg (fun h => n36_92 (g36.1.symm.trans h.1)), if_pos g36, List.drop_drop]
              refine Ev.step (f := fun k => domesdayref03_Shell.j2 k s (ac acc) (kL s) 0 (p : Int) ((ub s p).toNat : Int) nx (nx == 39)) (fun k => by rw [domesdayref03_Shell.j1, if_pos (by omega), if_neg c39, if_pos (u36'.2 g36.1)]; rfl) ?_
              rw [hnx, g36.2]
              refine Ev.step (f := fun k => domesdayref03_Shell.l0 k s (ac acc) (kL s) 2 ((p + 2 : Nat) : Int)) (fun k => by rw [domesdayref03_Shell.j2, if_pos rfl, hw, hw2]) ?_
              exact go0 (p + 2) 2 acc (by omega) (hlt2 g36.2) (by omega) (by omega)
            · have toj2 : Ev (fun k => domesdayref03_Shell.j2 k s (ac acc) (kL s) 0 (p : Int) ((ub s p).toNat : Int) nx false) (resOf (if rd (kL s) (p : Int) = 1 then shF 0 ((zL s (kL s)).drop (p + 1)) (acc ++ [ub s p]) else if ub s p = 92 ∧ hd39 ((zL s (kL s)).drop (p + 1)) = true then shF 0 (((zL s (kL s)).drop (p + 1)).drop 1) (acc ++ [39]) else if ub s p = 36 ∧ hd39 ((zL s (kL s)).drop (p + 1)) = true then shF 2 (((zL s (kL s)).drop (p + 1)).drop 1) acc else if ub s p = 39 then shF 1 ((zL s (kL s)).drop (p + 1)) acc else none)) := by
                by_cases g92 : ub s p = 92
                · refine Ev.step (f := fun k => domesdayref03_Shell.j3 k s (ac acc) (kL s) 0 (p : Int) ((ub s p).toNat : Int) (nx == 39)) (fun k => by rw [domesdayref03_Shell.j2, if_neg (by decide), if_pos (u92.2 g92)]) ?_
                  exact j3 _ (fun h => ⟨g92, by rw [← hnx]; exact h⟩) (fun h => by rw [hnx]; exact h.2) g36 g39
                · refine Ev.step (f := fun k => domesdayref03_Shell.j3 k s (ac acc) (kL s) 0 (p : Int) ((ub s p).toNat : Int) false) (fun k => by rw [domesdayref03_Shell.j2, if_neg (by decide), if_neg (fun e => g92 (u92.1 e))]) ?_
                  exact j3 _ (fun h => Bool.noConfusion h) (fun h => absurd h.1 g92) g36 g39
              by_cases g36b : ub s p = 36
              · have hno : (nx == 39) = false := by
                  rw [hnx]
                  exact Bool.eq_false_iff.2 fun h => g36 ⟨g36b, h⟩
                exact Ev.step (f := fun k => domesdayref03_Shell.j2 k s (ac acc) (kL s) 0 (p : Int) ((ub s p).toNat : Int) nx false) (fun k => by rw [domesdayref03_Shell.j1, if_pos (by omega), if_neg c39, if_pos (u36'.2 g36b), hno]; rfl) toj2
              · exact Ev.step (f := fun k => domesdayref03_Shell.j2 k s (ac acc) (kL s) 0 (p : Int) ((ub s p).toNat : Int) nx false) (fun k => by rw [domesdayref03_Shell.j1, if_pos (by omega), if_neg c39, if_neg (fun e => g36b (u36'.1 e))]; rfl) toj2
        | 1, _ =>
          rw [shF, if_neg (by decide), if_pos rfl]
          by_cases g39 : ub s p = 39
          · rw [if_pos g39]
            refine Ev.step (f := fun k => domesdayref03_Shell.l0 k s (ac acc) (kL s) 0 ((p + 1 : Nat) : Int)) (fun k => by rw [domesdayref03_Shell.j1, if_neg (by decide), if_pos (by decide), if_pos (u39.2 g39), hw]) ?_
            exact go0 (p + 1) 0 acc (by omega) (by omega) (by omega) (by omega)
          · rw [if_neg g39]
            refine Ev.step (f := fun k => domesdayref03_Shell.l0 k s (ac acc ++ [((ub s p).toNat : Int)]) (kL s) 1 ((p + 1 : Nat) : Int)) (fun k => by rw [domesdayref03_Shell.j1, if_neg (by decide), if_pos (by decide), if_neg (fun e => g39 (u39.1 e)), if_pos hal, hw]; rfl) ?_
            rw [ac_one]
            exact go0 (p + 1) 1 (acc ++ [ub s p]) (by omega) (by omega) (by simp; omega) (by omega)
        | 2, _ =>
          rw [shF, if_neg (by decide), if_neg (by decide)]
          by_cases g39 : ub s p = 39
          · rw [if_pos g39]
            refine Ev.step (f := fun k => domesdayref03_Shell.l0 k s (ac acc) (kL s) 0 ((p + 1 : Nat) : Int)) (fun k => by rw [domesdayref03_Shell.j1, if_neg (by decide), if_neg (by decide), if_pos (by decide), if_pos (u39.2 g39), hw]) ?_
            exact go0 (p + 1) 0 acc (by omega) (by omega) (by omega) (by omega)
          · rw [if_neg g39]
            have hmap := z_map_drop s (p + 1)
            rw [hmap]
            have hun := unL_len ((bl s).drop (p + 1))
            rw [List.length_drop, show (bl s).length = s.size from len_list s] at hun
            refine Ev.step (f := fun k => (domesdayref03_one.f k s ((p + 1 : Nat) : Int)).bind fun bt165 => (if ((ub s p).toNat : Int) = 92 then (if bt165.2 = 0 then (some ((⟨#[]⟩ : ByteArray), false)) else (if (ac acc).length < 140737488355328 then (domesdayref03_Shell.l0 k s (ac acc ++ [bt165.1]) (kL s) 2 (wrap64 ((wrap64 ((p : Int) + bt165.2)) + 1))) else (none))) else (some ((⟨#[]⟩ : ByteArray), false)))) (fun k => by rw [domesdayref03_Shell.j1, if_neg (by decide), if_neg (by decide), if_pos (by decide), if_neg (fun e => g39 (u39.1 e)), hw]; rfl) ?_
            refine Ev.bind (f := fun k bt165 => (if ((ub s p).toNat : Int) = 92 then (if bt165.2 = 0 then (some ((⟨#[]⟩ : ByteArray), false)) else (if (ac acc).length < 140737488355328 then (domesdayref03_Shell.l0 k s (ac acc ++ [bt165.1]) (kL s) 2 (wrap64 ((wrap64 ((p : Int) + bt165.2)) + 1))) else (none))) else (some ((⟨#[]⟩ : ByteArray), false)))) (one_ev s hs (p + 1) (by omega)) ?_
            by_cases g92 : ub s p = 92
            · rw [if_pos g92]
              by_cases g3 : (unL ((bl s).drop (p + 1))).2 = 0
              · rw [if_pos g3]
                exact Ev.congr (f := fun k => some ((⟨#[]⟩ : ByteArray), false)) (fun k => by rw [if_pos (u92.2 g92), if_pos (show ((unL ((bl s).drop (p + 1))).2 : Int) = 0 by omega)]) fail
              · rw [if_neg g3, List.drop_drop]
                refine Ev.congr (f := fun k => domesdayref03_Shell.l0 k s (ac acc ++ [((unL ((bl s).drop (p + 1))).1.toNat : Int)]) (kL s) 2 ((p + 1 + (unL ((bl s).drop (p + 1))).2 : Nat) : Int)) (fun k => ?_) ?_
                · rw [if_pos (u92.2 g92), if_neg (show ¬ ((unL ((bl s).drop (p + 1))).2 : Int) = 0 by omega), if_pos hal, wrap_id ((p : Int) + ((unL ((bl s).drop (p + 1))).2 : Int)) (by omega) (by omega), wrap_id _ (by omega) (by omega)]
                  congr 1
                  omega
                · rw [ac_one]
                  exact go0 (p + 1 + (unL ((bl s).drop (p + 1))).2) 2 (acc ++ [(unL ((bl s).drop (p + 1))).1]) (by omega) (by omega) (by simp; omega) (by omega)
            · rw [if_neg g92]
              exact Ev.congr (f := fun k => some ((⟨#[]⟩ : ByteArray), false)) (fun k => by rw [if_neg (fun e => g92 (u92.1 e))]) fail
      have hmap := z_map_drop s (p + 1)
      by_cases g4 : p + 1 < s.size
      · have hb1 := bt_ub s (p + 1) g4
        have hh := ub_head s (p + 1) g4
        refine Ev.step (f := fun k => domesdayref03_Shell.j1 k s (ac acc) (kL s) (st : Int) (p : Int) ((ub s p).toNat : Int) ((ub s (p + 1)).toNat : Int)) (fun k => by rw [domesdayref03_Shell.l0, if_pos (by omega), if_pos (by omega), hw, if_pos (by omega), if_pos (by omega), hub, hb1]) (key _ ?_ (fun _ => by omega))
        unfold hd39
        rw [hmap, hh]
        by_cases g : ub s (p + 1) = 39
        · rw [g]; rfl
        · have e1 : (((ub s (p + 1)).toNat : Int) == 39) = false := beq_eq_false_iff_ne.2 fun e => g ((u8_39 _).1 e)
          rw [e1]
          symm
          rw [beq_eq_false_iff_ne]
          exact fun e => g (Option.some.inj e)
      · have hnil2 : (bl s).drop (p + 1) = [] := List.drop_eq_nil_of_le (by rw [show (bl s).length = s.size from len_list s]; omega)
        have hf : hd39 ((zL s (kL s)).drop (p + 1)) = false := by unfold hd39; rw [hmap, hnil2]; rfl
        refine Ev.step (f := fun k => domesdayref03_Shell.j1 k s (ac acc) (kL s) (st : Int) (p : Int) ((ub s p).toNat : Int) 0) (fun k => by rw [domesdayref03_Shell.l0, if_pos (by omega), if_pos (by omega), hw, if_neg (by omega), hub]) (key _ (by rw [hf]; rfl) (fun h => by rw [hf] at h; cases h))
    · rw [sh_end s p st acc (by omega)]
      by_cases g : st = 0
      · rw [if_pos g]
        refine Ev.step (f := fun k => some (strOfNums (ac acc), true)) (fun k => by rw [domesdayref03_Shell.l0, if_neg (by omega), if_pos (by omega), if_neg hnil]) ?_
        rw [ac_str]
        exact Ev.now _
      · rw [if_neg g]
        exact Ev.step (f := fun k => some ((⟨#[]⟩ : ByteArray), false)) (fun k => by rw [domesdayref03_Shell.l0, if_neg (by omega), if_neg (by omega)]) (Ev.now _)
theorem rs_ev (s : ByteArray) (hs : s.size ≤ 100000) : Ev (fun k => domesdayref03_Shell.f k s) (quote_Shell.R s) := by
  refine Ev.bind (f := fun k t152 => (domesdayref03_Shell.l0 k s ([] : List Int) t152 0 0)) (rkinds_ev s hs) ?_
  unfold quote_Shell.R
  by_cases h0 : s.size = 0
  · rw [if_pos h0]
    have he : s.toList = ([] : List UInt8) := by
      rw [toList_bl]
      exact List.eq_nil_of_length_eq_zero ((len_list s).trans h0)
    exact Ev.step (f := fun k => some ((⟨#[]⟩ : ByteArray), false)) (fun k => by rw [domesdayref03_Shell.l0, if_neg (by omega), if_pos rfl, if_pos he]) (Ev.now _)
  · rw [if_neg h0]
    exact rs_l0 s hs h0 s.size 0 0 [] (by omega) (by omega) (Nat.le_refl _) (by omega)
theorem QuoteReads (a0 : ByteArray) : ∃ k, domesdaylaw03_QuoteReads.f k a0 = some true := by
  refine Ev.rounds ?_
  refine Ev.bind (f := fun k t189 => (if t189 = true then (domesdaylaw03_QuoteReads.j0 k a0 (decide ((a0.size : Int) > 200))) else (domesdaylaw03_QuoteReads.j0 k a0 true))) awake_ev2 ?_
  refine Ev.congr (f := fun k => domesdaylaw03_QuoteReads.j0 k a0 (decide ((a0.size : Int) > 200))) (fun k => by rw [if_pos rfl]) ?_
  by_cases h : (a0.size : Int) > 200
  · rw [decide_eq_true h]
    exact Ev.step (f := fun k => (domesdaylaw03_awake.f k).bind fun t => some t) (fun k => by rw [domesdaylaw03_QuoteReads.j0, if_pos rfl]) (Ev.bind (f := fun _ t => some t) awake_ev2 (Ev.now true))
  · rw [decide_eq_false h]
    have hs : a0.size ≤ 100000 := by omega
    have hsh : quote_Shell.f a0 = some (quote_Shell.R a0) := by unfold quote_Shell.f; rw [if_pos hs]
    refine Ev.step (f := fun k => ((domesdayref03_Shell.f k a0).bind fun bt193 => ((quote_C.f k a0).bind fun bt195 => ((domesdayref03_C.f k a0).bind fun bt197 => (if (quote_Shell.R a0).1.toList = bt193.1.toList then (if ((quote_Shell.R a0).2 == bt193.2) = true then (if bt195.1.toList = bt197.1.toList then (some (bt195.2 == bt197.2)) else (none)) else (none)) else (none)))))) (fun k => by rw [domesdaylaw03_QuoteReads.j0, if_neg (by decide), hsh, Option.bind_some]) ?_
    refine Ev.bind (f := fun k bt193 => ((quote_C.f k a0).bind fun bt195 => ((domesdayref03_C.f k a0).bind fun bt197 => (if (quote_Shell.R a0).1.toList = bt193.1.toList then (if ((quote_Shell.R a0).2 == bt193.2) = true then (if bt195.1.toList = bt197.1.toList then (some (bt195.2 == bt197.2)) else (none)) else (none)) else (none))))) (rs_ev a0 hs) ?_
    refine Ev.bind (f := fun k bt195 => ((domesdayref03_C.f k a0).bind fun bt197 => (if (quote_Shell.R a0).1.toList = (quote_Shell.R a0).1.toList then (if ((quote_Shell.R a0).2 == (quote_Shell.R a0).2) = true then (if bt195.1.toList = bt197.1.toList then (some (bt195.2 == bt197.2)) else (none)) else (none)) else (none)))) (c_ev a0 hs) ?_
    refine Ev.bind (f := fun k bt197 => (if (quote_Shell.R a0).1.toList = (quote_Shell.R a0).1.toList then (if ((quote_Shell.R a0).2 == (quote_Shell.R a0).2) = true then (if (cR a0).1.toList = bt197.1.toList then (some ((cR a0).2 == bt197.2)) else (none)) else (none)) else (none))) (rc_ev a0 hs) ?_
    exact Ev.congr (f := fun k => some true) (fun k => by simp) (Ev.now true)
end Go.Proofs.YtkhbgfnbkdonlaaDoor.Pure
