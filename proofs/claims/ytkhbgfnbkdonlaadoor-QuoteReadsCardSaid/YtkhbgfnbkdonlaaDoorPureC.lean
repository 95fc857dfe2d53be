/- The plain law of the program's C. -/
import Derived.Test.YtkhbgfnbkdonlaaDoorXShell
import Derived.Test.YtkhbgfnbkdonlaaDoorQQuoC
namespace Go.Proofs.YtkhbgfnbkdonlaaDoor.Pure
open Go.RowKit Go.Lib Go.Proofs.YtkhbgfnbkdonlaaDoor.QQuo Go.Proofs.YtkhbgfnbkdonlaaDoorW.PrintWords Go.Proofs.YtkhbgfnbkdonlaaDoorW.PrintLast Go.Proofs.YtkhbgfnbkdonlaaDoorW.PrintMore
set_option linter.unusedVariables false
set_option linter.unusedSimpArgs false

theorem u8_iff (a : UInt8) (n : Nat) (b : UInt8) (h : b.toNat = n) : ((a.toNat : Int) = (n : Int)) ↔ a = b := by
  constructor
  · intro e; apply UInt8.toNat.inj; omega
  · intro e; rw [e, h]
theorem u8_34 (a : UInt8) : ((a.toNat : Int) = 34) ↔ a = 34 := u8_iff a 34 34 rfl
theorem u8_92 (a : UInt8) : ((a.toNat : Int) = 92) ↔ a = 92 := u8_iff a 92 92 rfl
theorem u8_39 (a : UInt8) : ((a.toNat : Int) = 39) ↔ a = 39 := u8_iff a 39 39 rfl
theorem ac_len (l : List UInt8) : (ac l).length = l.length := by simp [ac]
theorem ac_one (l : List UInt8) (c : UInt8) : ac l ++ [(c.toNat : Int)] = ac (l ++ [c]) := by simp [ac]
theorem ub_head (y : ByteArray) (p : Nat) (h : p < y.size) : ((bl y).drop p).head? = some (ub y p) := by rw [ub_at y p h]; rfl
theorem ext_bt0 (y : ByteArray) (p : Nat) (h : p < y.size) : bt (y.extract p y.size) 0 = ((ub y p).toNat : Int) := by
  have hs : (y.extract p y.size).size = y.size - p := by rw [ByteArray.size_extract]; omega
  have e := bt_bl (y.extract p y.size) 0 (by omega)
  rw [show bl (y.extract p y.size) = (bl y).drop p from ext_list y p, ub_at y p h] at e
  exact e
theorem cF_step (y : ByteArray) (p : Nat) (acc : List UInt8) (h : p < y.size) : cF ((bl y).drop p) acc = if ub y p = 34 then none else if ub y p = 92 then (if (cEsc ((bl y).drop (p + 1))).2 = 0 then none else cF ((bl y).drop (p + 1 + (cEsc ((bl y).drop (p + 1))).2)) (acc ++ [(cEsc ((bl y).drop (p + 1))).1])) else cF ((bl y).drop (p + 1)) (acc ++ [ub y p]) := by
  rw [ub_at y p h, cF, List.drop_drop]
theorem cF_end (y : ByteArray) (p : Nat) (acc : List UInt8) (h : y.size ≤ p) : cF ((bl y).drop p) acc = some acc := by
  rw [List.drop_eq_nil_of_le (by rw [show (bl y).length = y.size from len_list y]; exact h), cF]
theorem cEsc_len (l : List UInt8) : (cEsc l).2 ≤ l.length ∧ (cEsc l).2 ≤ 3 := by
  unfold cEsc
  split
  · next h => cases l with
    | nil => simp at h
    | cons => simp
  · split
    · next h => cases l with
      | nil => simp at h
      | cons => simp
    · exact unL_len l
theorem c_l0 (y : ByteArray) (hy : y.size ≤ 100000) : ∀ (m p : Nat) (acc : List UInt8), y.size ≤ p + m → p ≤ y.size → acc.length ≤ p →
    Ev (fun k => quote_C.l0 k (ac acc) y (p : Int)) (resOf (cF ((bl y).drop p) acc))
  | m, p, acc, hm, hp, ha => by
    by_cases hlt : p < y.size
    · rw [cF_step y p acc hlt]
      have hub := bt_ub y p hlt
      have u34 := u8_34 (ub y p)
      have u92 := u8_92 (ub y p)
      have hw : wrap64 ((p : Int) + 1) = ((p + 1 : Nat) : Int) := wrap_id _ (by omega) (by omega)
      by_cases g1 : ub y p = 34
      · rw [if_pos g1]
        exact Ev.step (f := fun k => some ((⟨#[]⟩ : ByteArray), false)) (fun k => by rw [quote_C.l0, if_pos (by omega), if_pos (by omega), hub, if_pos (u34.2 g1)]) (Ev.now _)
      rw [if_neg g1]
      have n34 : ¬ ((ub y p).toNat : Int) = 34 := fun e => g1 (u34.1 e)
      match m, hm with
      | 0, hm => omega
      | m + 1, hm =>
      by_cases g2 : ub y p = 92
      · rw [if_pos g2]
        have hlen := cEsc_len ((bl y).drop (p + 1))
        rw [List.length_drop, show (bl y).length = y.size from len_list y] at hlen
        -- what stands behind the \
        have hx : bl (y.extract (p + 1) y.size) = (bl y).drop (p + 1) := ext_list y (p + 1)
        have hun := unescape_f (y.extract (p + 1) y.size)
        rw [hx] at hun
        have goal1 : ∀ (b : Bool), (b = true ↔ (((bl y).drop (p + 1)).head? = some 34 ∨ ((bl y).drop (p + 1)).head? = some 92)) → (b = true → p + 1 < y.size) → Ev (fun k => quote_C.j2 k (ac acc) y (p : Int) (y.extract (p + 1) y.size) ((unL ((bl y).drop (p + 1))).1.toNat : Int) ((unL ((bl y).drop (p + 1))).2 : Int) b) (resOf (if (cEsc ((bl y).drop (p + 1))).2 = 0 then none else cF ((bl y).drop (p + 1 + (cEsc ((bl y).drop (p + 1))).2)) (acc ++ [(cEsc ((bl y).drop (p + 1))).1]))) := by
          intro b hb hb2
          cases b with
          | true =>
            have hlt2 := hb2 rfl
            have hc : cEsc ((bl y).drop (p + 1)) = (ub y (p + 1), 1) := by
              have hh := ub_head y (p + 1) hlt2
              rcases hb.1 rfl with h | h
              · have : ub y (p + 1) = 34 := by rw [hh] at h; exact Option.some.inj h
                unfold cEsc; rw [if_pos h, this]
              · have : ub y (p + 1) = 92 := by rw [hh] at h; exact Option.some.inj h
                unfold cEsc
                rw [if_neg (by rw [h]; decide), if_pos h, this]
            rw [hc]
            have hs1 : (y.extract (p + 1) y.size).size = y.size - (p + 1) := by rw [ByteArray.size_extract]; omega
            refine Ev.step (f := fun k => quote_C.l0 k (ac acc ++ [bt (y.extract (p + 1) y.size) 0]) y (wrap64 ((p : Int) + (1 + 1)))) (fun k => by rw [quote_C.j2, if_pos rfl, if_pos (by omega), if_neg (by decide), if_pos (by rw [ac_len]; omega)]) ?_
            rw [ext_bt0 y (p + 1) hlt2, ac_one, wrap_id _ (by omega) (by omega)]
            have := c_l0 y hy m (p + 1 + 1) (acc ++ [ub y (p + 1)]) (by omega) (by omega) (by simp; omega)
            exact this
          | false =>
            have hn : ¬ (((bl y).drop (p + 1)).head? = some 34 ∨ ((bl y).drop (p + 1)).head? = some 92) := fun h => by have := hb.2 h; cases this
            have hc : cEsc ((bl y).drop (p + 1)) = unL ((bl y).drop (p + 1)) := by
              unfold cEsc
              rw [if_neg (fun h => hn (.inl h)), if_neg (fun h => hn (.inr h))]
            rw [hc] at hlen ⊢
            by_cases g3 : (unL ((bl y).drop (p + 1))).2 = 0
            · rw [if_pos g3]
              exact Ev.step (f := fun k => some ((⟨#[]⟩ : ByteArray), false)) (fun k => by rw [quote_C.j2, if_neg (by decide), if_pos (by omega)]) (Ev.now _)
            · rw [if_neg g3]
              refine Ev.step (f := fun k => quote_C.l0 k (ac acc ++ [((unL ((bl y).drop (p + 1))).1.toNat : Int)]) y (wrap64 ((p : Int) + (wrap64 (((unL ((bl y).drop (p + 1))).2 : Int) + 1))))) (fun k => by rw [quote_C.j2, if_neg (by decide), if_neg (by omega), if_pos (by rw [ac_len]; omega)]) ?_
              rw [ac_one, wrap_id (((unL ((bl y).drop (p + 1))).2 : Int) + 1) (by omega) (by omega), wrap_id _ (by omega) (by omega)]
              have := c_l0 y hy m (p + 1 + (unL ((bl y).drop (p + 1))).2) (acc ++ [(unL ((bl y).drop (p + 1))).1]) (by omega) (by omega) (by simp; omega)
              rw [show (p : Int) + (((unL ((bl y).drop (p + 1))).2 : Int) + 1) = ((p + 1 + (unL ((bl y).drop (p + 1))).2 : Nat) : Int) by omega]
              exact this
        have hxs : (y.extract (p + 1) y.size).toList = (bl y).drop (p + 1) := by rw [toList_bl, hx]
        have hs1 : (y.extract (p + 1) y.size).size = y.size - (p + 1) := by rw [ByteArray.size_extract]; omega
        by_cases g4 : p + 1 < y.size
        · have hh := ub_head y (p + 1) g4
          have h0 := ext_bt0 y (p + 1) g4
          have hne : ¬ (bl y).drop (p + 1) = [] := fun e => by rw [e] at hh; cases hh
          by_cases g5 : ub y (p + 1) = 34
          · refine Ev.step (f := fun k => quote_C.j2 k (ac acc) y (p : Int) (y.extract (p + 1) y.size) ((unL ((bl y).drop (p + 1))).1.toNat : Int) ((unL ((bl y).drop (p + 1))).2 : Int) true) (fun k => ?_) (goal1 true ⟨fun _ => .inl (by rw [hh, g5]), fun _ => rfl⟩ (fun _ => g4))
            rw [quote_C.l0, if_pos (by omega), if_pos (by omega), hub, if_neg n34, if_pos (u92.2 g2), hw, if_pos (by omega), if_pos (by omega), Int.toNat_natCast, hun, Option.bind_some, hxs, if_neg hne, if_pos (by omega), h0, if_pos ((u8_34 (ub y (p + 1))).2 g5)]
          · refine Ev.step (f := fun k => quote_C.j2 k (ac acc) y (p : Int) (y.extract (p + 1) y.size) ((unL ((bl y).drop (p + 1))).1.toNat : Int) ((unL ((bl y).drop (p + 1))).2 : Int) (((ub y (p + 1)).toNat : Int) == 92)) (fun k => ?_) (goal1 _ ⟨fun h => .inr ?_, fun h => ?_⟩ (fun _ => g4))
            · rw [quote_C.l0, if_pos (by omega), if_pos (by omega), hub, if_neg n34, if_pos (u92.2 g2), hw, if_pos (by omega), if_pos (by omega), Int.toNat_natCast, hun, Option.bind_some, hxs, if_neg hne, if_pos (by omega), h0, if_neg (fun e => g5 ((u8_34 (ub y (p + 1))).1 e))]
            · rw [hh, (u8_92 (ub y (p + 1))).1 (beq_iff_eq.1 h)]
            · rcases h with h | h
              · rw [hh] at h; exact absurd (Option.some.inj h) g5
              · rw [hh] at h
                rw [beq_iff_eq]
                exact (u8_92 (ub y (p + 1))).2 (Option.some.inj h)
        · have hnil : (bl y).drop (p + 1) = [] := List.drop_eq_nil_of_le (by rw [show (bl y).length = y.size from len_list y]; omega)
          refine Ev.step (f := fun k => quote_C.j2 k (ac acc) y (p : Int) (y.extract (p + 1) y.size) ((unL ((bl y).drop (p + 1))).1.toNat : Int) ((unL ((bl y).drop (p + 1))).2 : Int) false) (fun k => ?_) (goal1 false ⟨fun h => Bool.noConfusion h, fun h => (by rw [hnil] at h; rcases h with h | h <;> cases h)⟩ (fun h => Bool.noConfusion h))
          rw [quote_C.l0, if_pos (by omega), if_pos (by omega), hub, if_neg n34, if_pos (u92.2 g2), hw, if_pos (by omega), if_pos (by omega), Int.toNat_natCast, hun, Option.bind_some, hxs, if_pos hnil]
      · rw [if_neg g2]
        refine Ev.step (f := fun k => quote_C.l0 k (ac acc ++ [((ub y p).toNat : Int)]) y (wrap64 ((p : Int) + 1))) (fun k => by rw [quote_C.l0, if_pos (by omega), if_pos (by omega), hub, if_neg n34, if_neg (fun e => g2 (u92.1 e)), if_pos (by rw [ac_len]; omega)]) ?_
        rw [ac_one, hw]
        exact c_l0 y hy m (p + 1) (acc ++ [ub y p]) (by omega) (by omega) (by simp; omega)
    · rw [cF_end y p acc (by omega)]
      refine Ev.step (f := fun k => some (strOfNums (ac acc), true)) (fun k => by rw [quote_C.l0, if_neg (by omega)]) ?_
      rw [ac_str]
      exact Ev.now _
/-- What C reads of a text. -/
def cR (s : ByteArray) : ByteArray × Bool :=
  if s.size < 2 then (⟨#[]⟩, false) else if ub s 0 = 34 ∧ ub s (s.size - 1) = 34 then resOf (cF (((bl s).drop 1).take (s.size - 2)) []) else (⟨#[]⟩, false)
theorem c_ev (s : ByteArray) (hs : s.size ≤ 100000) : Ev (fun k => quote_C.f k s) (cR s) := by
  have bad : Ev (fun k => quote_C.j0 k s true) ((⟨#[]⟩ : ByteArray), false) :=
    Ev.step (f := fun k => some ((⟨#[]⟩ : ByteArray), false)) (fun k => by rw [quote_C.j0, if_pos rfl]) (Ev.now _)
  unfold cR
  by_cases h2 : s.size < 2
  · rw [if_pos h2]
    exact Ev.congr (f := fun k => quote_C.j0 k s true) (fun k => by rw [quote_C.f, if_pos (by omega)]) bad
  rw [if_neg h2]
  have h0 : bt s 0 = ((ub s 0).toNat : Int) := bt_ub s 0 (by omega)
  have hw : wrap64 ((s.size : Int) - 1) = ((s.size - 1 : Nat) : Int) := by rw [wrap_id _ (by omega) (by omega)]; omega
  have hl := bt_ub s (s.size - 1) (by omega)
  by_cases g1 : ub s 0 = 34
  · by_cases g2 : ub s (s.size - 1) = 34
    · rw [if_pos ⟨g1, g2⟩]
      refine Ev.congr (f := fun k => quote_C.j0 k s false) (fun k => by
        rw [quote_C.f, if_neg (by omega), if_pos (by omega), h0, if_pos ((u8_34 _).2 g1), hw, if_pos (by omega), if_pos (by omega), hl, g2]; rfl) ?_
      refine Ev.step (f := fun k => quote_C.l0 k ([] : List Int) (s.extract 1 (s.size - 1)) 0) (fun k => by rw [quote_C.j0, if_neg (by decide), hw, if_pos (by omega), if_pos (by omega), Int.toNat_natCast]) ?_
      have hsz : (s.extract 1 (s.size - 1)).size = s.size - 2 := by rw [ByteArray.size_extract]; omega
      have := c_l0 (s.extract 1 (s.size - 1)) (by omega) (s.size - 2) 0 [] (by omega) (by omega) (Nat.le_refl _)
      rw [List.drop_zero, ext_eq, bl_B, show s.size - 1 - 1 = s.size - 2 by omega] at this
      rw [ext_eq, show s.size - 1 - 1 = s.size - 2 by omega]
      exact this
    · rw [if_neg (fun h => g2 h.2)]
      refine Ev.congr (f := fun k => quote_C.j0 k s true) (fun k => by
        rw [quote_C.f, if_neg (by omega), if_pos (by omega), h0, if_pos ((u8_34 _).2 g1), hw, if_pos (by omega), if_pos (by omega), hl]
        rw [show (((ub s (s.size - 1)).toNat : Int) != 34) = true from bne_iff_ne.2 fun e => g2 ((u8_34 _).1 e)]) bad
  · rw [if_neg (fun h => g1 h.1)]
    exact Ev.congr (f := fun k => quote_C.j0 k s true) (fun k => by rw [quote_C.f, if_neg (by omega), if_pos (by omega), h0, if_neg (fun e => g1 ((u8_34 _).1 e))]) bad
end Go.Proofs.YtkhbgfnbkdonlaaDoor.Pure
