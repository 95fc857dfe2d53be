/- The plain laws of the document's Shell and C. -/
import Derived.Test.YtkhbgfnbkdonlaaDoorPureC
import Derived.Test.YtkhbgfnbkdonlaaDoorQQuoR3
namespace Go.Proofs.YtkhbgfnbkdonlaaDoor.Pure
open Go.RowKit Go.Lib Go.Proofs.YtkhbgfnbkdonlaaDoor.QQuo Go.Proofs.YtkhbgfnbkdonlaaDoorW.PrintWords Go.Proofs.YtkhbgfnbkdonlaaDoorW.PrintLast Go.Proofs.YtkhbgfnbkdonlaaDoorW.PrintMore
set_option linter.unusedVariables false
set_option linter.unusedSimpArgs false

theorem one_round (s : ByteArray) (hs : s.size ≤ 100000) (i j v : Nat) (hi : i ≤ s.size) (hj : j < 3) (hv : v ≤ 63) (r : Int × Int)
    (h : i + j < s.size → 48 ≤ (ub s (i + j)).toNat → (ub s (i + j)).toNat ≤ 55 → Ev (fun k => domesdayref03_one.l0 k s (i : Int) ((v * 8 + ((ub s (i + j)).toNat - 48) : Nat) : Int) ((j + 1 : Nat) : Int)) r) :
    Ev (fun k => domesdayref03_one.l0 k s (i : Int) (v : Int) (j : Int)) (if i + j < s.size ∧ 48 ≤ (ub s (i + j)).toNat ∧ (ub s (i + j)).toNat ≤ 55 then r else (0, 0)) := by
  have hw : wrap64 ((i : Int) + (j : Int)) = ((i + j : Nat) : Int) := wrap_id _ (by omega) (by omega)
  by_cases h1 : i + j < s.size
  · have hb := bt_ub s (i + j) h1
    by_cases h2 : 48 ≤ (ub s (i + j)).toNat
    · by_cases h3 : (ub s (i + j)).toNat ≤ 55
      · rw [if_pos ⟨h1, h2, h3⟩]
        refine Ev.step (f := fun k => domesdayref03_one.l0 k s (i : Int) ((v * 8 + ((ub s (i + j)).toNat - 48) : Nat) : Int) ((j + 1 : Nat) : Int)) (fun k => ?_) (h h1 h2 h3)
        rw [domesdayref03_one.l0, if_pos (by omega), hw, if_neg (by omega), if_pos (by omega), if_pos (by omega), hb, if_neg (by omega), if_neg (by omega), wrap_id ((v : Int) * 8) (by omega) (by omega), wrap_id _ (by omega) (by omega), wrap_id _ (by omega) (by omega)]
        congr 1
        omega
      · rw [if_neg (fun h => h3 h.2.2)]
        exact Ev.step (f := fun k => some (0, 0)) (fun k => by rw [domesdayref03_one.l0, if_pos (by omega), hw, if_neg (by omega), if_pos (by omega), if_pos (by omega), hb, if_neg (by omega), if_pos (by omega)]) (Ev.now _)
    · rw [if_neg (fun h => h2 h.2.1)]
      exact Ev.step (f := fun k => some (0, 0)) (fun k => by rw [domesdayref03_one.l0, if_pos (by omega), hw, if_neg (by omega), if_pos (by omega), if_pos (by omega), hb, if_pos (by omega)]) (Ev.now _)
  · rw [if_neg (fun h => h1 h.1)]
    exact Ev.step (f := fun k => some (0, 0)) (fun k => by rw [domesdayref03_one.l0, if_pos (by omega), hw, if_pos (by omega)]) (Ev.now _)
theorem oct_ev (s : ByteArray) (hs : s.size ≤ 100000) (i : Nat) (hi : i ≤ s.size) :
    Ev (fun k => domesdayref03_one.l0 k s (i : Int) 0 0) (((octL ((bl s).drop i)).1.toNat : Int), ((octL ((bl s).drop i)).2 : Int)) := by
  have e : (((octL ((bl s).drop i)).1.toNat : Int), ((octL ((bl s).drop i)).2 : Int)) =
      (if i + 0 < s.size ∧ 48 ≤ (ub s (i + 0)).toNat ∧ (ub s (i + 0)).toNat ≤ 55 then
        (if i + 1 < s.size ∧ 48 ≤ (ub s (i + 1)).toNat ∧ (ub s (i + 1)).toNat ≤ 55 then
          (if i + 2 < s.size ∧ 48 ≤ (ub s (i + 2)).toNat ∧ (ub s (i + 2)).toNat ≤ 55 then
            (if (((0 * 8 + ((ub s (i + 0)).toNat - 48)) * 8 + ((ub s (i + 1)).toNat - 48)) * 8 + ((ub s (i + 2)).toNat - 48) : Nat) > 255 then ((0, 0) : Int × Int) else (((((0 * 8 + ((ub s (i + 0)).toNat - 48)) * 8 + ((ub s (i + 1)).toNat - 48)) * 8 + ((ub s (i + 2)).toNat - 48) : Nat) : Int), 3))
          else (0, 0)) else (0, 0)) else (0, 0)) := by
    have Z : ((((0 : UInt8), 0) : UInt8 × Nat).1.toNat : Int) = 0 := rfl
    by_cases h2 : i + 2 < s.size
    · rw [ub_at s i (by omega), ub_at s (i + 1) (by omega), ub_at s (i + 1 + 1) (by omega)]
      have hO : ∀ (x y z : UInt8) t, octL (x :: y :: z :: t) = if 48 ≤ x ∧ x ≤ 51 ∧ 48 ≤ y ∧ y ≤ 55 ∧ 48 ≤ z ∧ z ≤ 55 then ((x - 48) * 64 + (y - 48) * 8 + (z - 48), 3) else (0, 0) := fun _ _ _ _ => rfl
      rw [hO, Nat.add_zero]
      generalize ub s i = x
      generalize ub s (i + 1) = y
      rw [show i + 1 + 1 = i + 2 by omega]
      generalize ub s (i + 2) = z
      have hx := UInt8.toNat_lt x
      have hy := UInt8.toNat_lt y
      have hz := UInt8.toNat_lt z
      simp only [UInt8.le_iff_toNat_le, show (48 : UInt8).toNat = 48 from rfl, show (51 : UInt8).toNat = 51 from rfl, show (55 : UInt8).toNat = 55 from rfl]
      by_cases g : 48 ≤ x.toNat ∧ x.toNat ≤ 51 ∧ 48 ≤ y.toNat ∧ y.toNat ≤ 55 ∧ 48 ≤ z.toNat ∧ z.toNat ≤ 55
      · have hv : ((x - 48) * 64 + (y - 48) * 8 + (z - 48)).toNat = (x.toNat - 48) * 64 + (y.toNat - 48) * 8 + (z.toNat - 48) := by
          have e1 : (x - 48).toNat = x.toNat - 48 := UInt8.toNat_sub_of_le _ _ (UInt8.le_iff_toNat_le.2 g.1)
          have e2 : (y - 48).toNat = y.toNat - 48 := UInt8.toNat_sub_of_le _ _ (UInt8.le_iff_toNat_le.2 g.2.2.1)
          have e3 : (z - 48).toNat = z.toNat - 48 := UInt8.toNat_sub_of_le _ _ (UInt8.le_iff_toNat_le.2 g.2.2.2.2.1)
          rw [UInt8.toNat_add, UInt8.toNat_add, UInt8.toNat_mul, UInt8.toNat_mul, e1, e2, e3, show (64 : UInt8).toNat = 64 from rfl, show (8 : UInt8).toNat = 8 from rfl]
          omega
        rw [if_pos g, if_pos ⟨by omega, by omega, by omega⟩, if_pos ⟨by omega, by omega, by omega⟩, if_pos ⟨by omega, by omega, by omega⟩, if_neg (by omega)]
        simp only [hv]
        congr 1
        omega
      · rw [if_neg g]
        simp only [Z]
        split
        · split
          · split
            · split
              · rfl
              · omega
            · rfl
          · rfl
        · rfl
    · have hO : octL ((bl s).drop i) = (0, 0) := by
        have hl : ((bl s).drop i).length < 3 := by rw [List.length_drop, show (bl s).length = s.size from len_list s]; omega
        generalize (bl s).drop i = l at hl
        match l, hl with
        | [], _ => rfl
        | [_], _ => rfl
        | [_, _], _ => rfl
        | _ :: _ :: _ :: _, h => exact absurd h (by simp)
      rw [hO]
      simp only [Z]
      split
      · split
        · rw [if_neg (fun h => h2 h.1)]; rfl
        · rfl
      · rfl
  rw [e]
  refine one_round s hs i 0 0 hi (by decide) (by decide) _ fun a1 a2 a3 => ?_
  refine one_round s hs i 1 (0 * 8 + ((ub s (i + 0)).toNat - 48)) hi (by decide) (by omega) _ fun b1 b2 b3 => ?_
  refine one_round s hs i 2 ((0 * 8 + ((ub s (i + 0)).toNat - 48)) * 8 + ((ub s (i + 1)).toNat - 48)) hi (by decide) (by omega) _ fun c1 c2 c3 => ?_
  split
  · exact Ev.step (f := fun k => some (0, 0)) (fun k => by rw [domesdayref03_one.l0, if_neg (by decide), if_pos (by omega)]) (Ev.now _)
  · refine Ev.step (f := fun k => some (((((0 * 8 + ((ub s (i + 0)).toNat - 48)) * 8 + ((ub s (i + 1)).toNat - 48)) * 8 + ((ub s (i + 2)).toNat - 48) : Nat) : Int), 3)) (fun k => ?_) (Ev.now _)
    rw [domesdayref03_one.l0, if_neg (by decide), if_neg (by omega), Int.emod_eq_of_lt (by omega) (by omega)]
theorem one_ev (s : ByteArray) (hs : s.size ≤ 100000) (i : Nat) (hi : i ≤ s.size) :
    Ev (fun k => domesdayref03_one.f k s (i : Int)) (((unL ((bl s).drop i)).1.toNat : Int), ((unL ((bl s).drop i)).2 : Int)) := by
  have ho := oct_ev s hs i hi
  unfold unL
  by_cases h1 : i < s.size
  · have hb := bt_ub s i h1
    have hh := ub_head s i h1
    rw [hh]
    by_cases g1 : ub s i = 110
    · rw [if_pos (by rw [g1])]
      refine Ev.congr (f := fun k => domesdayref03_one.j0 k s (i : Int) true) (fun k => by rw [domesdayref03_one.f, if_pos (by omega), if_pos (by omega), hb, g1]; rfl) ?_
      exact Ev.step (f := fun k => some (10, 1)) (fun k => by rw [domesdayref03_one.j0, if_pos rfl]) (Ev.now _)
    · rw [if_neg (fun e => g1 (Option.some.inj e))]
      have n1 : (((ub s i).toNat : Int) == 110) = false := beq_eq_false_iff_ne.2 fun e => g1 ((u8_iff _ 110 110 rfl).1 e)
      refine Ev.congr (f := fun k => domesdayref03_one.j0 k s (i : Int) false) (fun k => by rw [domesdayref03_one.f, if_pos (by omega), if_pos (by omega), hb, n1]) ?_
      by_cases g2 : ub s i = 116
      · rw [if_pos (by rw [g2])]
        refine Ev.step (f := fun k => domesdayref03_one.j1 k s (i : Int) true) (fun k => by rw [domesdayref03_one.j0, if_neg (by decide), if_pos (by omega), if_pos (by omega), hb, g2]; rfl) ?_
        exact Ev.step (f := fun k => some (9, 1)) (fun k => by rw [domesdayref03_one.j1, if_pos rfl]) (Ev.now _)
      · rw [if_neg (fun e => g2 (Option.some.inj e))]
        have n2 : (((ub s i).toNat : Int) == 116) = false := beq_eq_false_iff_ne.2 fun e => g2 ((u8_iff _ 116 116 rfl).1 e)
        refine Ev.step (f := fun k => domesdayref03_one.j1 k s (i : Int) false) (fun k => by rw [domesdayref03_one.j0, if_neg (by decide), if_pos (by omega), if_pos (by omega), hb, n2]) ?_
        exact Ev.step (f := fun k => domesdayref03_one.l0 k s (i : Int) 0 0) (fun k => by rw [domesdayref03_one.j1, if_neg (by decide)]) ho
  · have hnil : (bl s).drop i = [] := List.drop_eq_nil_of_le (by rw [show (bl s).length = s.size from len_list s]; omega)
    rw [hnil] at ho ⊢
    rw [if_neg (by decide), if_neg (by decide)]
    refine Ev.congr (f := fun k => domesdayref03_one.j0 k s (i : Int) false) (fun k => by rw [domesdayref03_one.f, if_neg (by omega)]) ?_
    refine Ev.step (f := fun k => domesdayref03_one.j1 k s (i : Int) false) (fun k => by rw [domesdayref03_one.j0, if_neg (by decide), if_neg (by omega)]) ?_
    exact Ev.step (f := fun k => domesdayref03_one.l0 k s (i : Int) 0 0) (fun k => by rw [domesdayref03_one.j1, if_neg (by decide)]) ho
theorem rc_l0 (y : ByteArray) (hy : y.size ≤ 100000) : ∀ (m p : Nat) (acc : List UInt8), y.size ≤ p + m → p ≤ y.size → acc.length ≤ p →
    Ev (fun k => domesdayref03_C.l0 k y (ac acc) (p : Int)) (resOf (cF ((bl y).drop p) acc))
  | m, p, acc, hm, hp, ha => by
    by_cases hlt : p < y.size
    · rw [cF_step y p acc hlt]
      have hub := bt_ub y p hlt
      have u34 := u8_34 (ub y p)
      have u92 := u8_92 (ub y p)
      have hw : wrap64 ((p : Int) + 1) = ((p + 1 : Nat) : Int) := wrap_id _ (by omega) (by omega)
      by_cases g1 : ub y p = 34
      · rw [if_pos g1]
        exact Ev.step (f := fun k => some ((⟨#[]⟩ : ByteArray), false)) (fun k => by rw [domesdayref03_C.l0, if_pos (by omega), if_pos (by omega), hub, if_pos (u34.2 g1)]) (Ev.now _)
      rw [if_neg g1]
      have n34 : ¬ ((ub y p).toNat : Int) = 34 := fun e => g1 (u34.1 e)
      match m, hm with
      | 0, hm => omega
      | m + 1, hm =>
      by_cases g2 : ub y p = 92
      · rw [if_pos g2]
        have hlen := cEsc_len ((bl y).drop (p + 1))
        rw [List.length_drop, show (bl y).length = y.size from len_list y] at hlen
        have goal1 : ∀ (b : Bool), (b = true ↔ (((bl y).drop (p + 1)).head? = some 34 ∨ ((bl y).drop (p + 1)).head? = some 92)) → (b = true → p + 1 < y.size) → Ev (fun k => domesdayref03_C.j2 k y (ac acc) (p : Int) b) (resOf (if (cEsc ((bl y).drop (p + 1))).2 = 0 then none else cF ((bl y).drop (p + 1 + (cEsc ((bl y).drop (p + 1))).2)) (acc ++ [(cEsc ((bl y).drop (p + 1))).1]))) := by
          intro b hb hb2
          cases b with
          | true =>
            have hlt2 := hb2 rfl
            have hc : cEsc ((bl y).drop (p + 1)) = (ub y (p + 1), 1) := by
              have hh := ub_head y (p + 1) hlt2
              rcases hb.1 rfl with h | h
              · have : ub y (p + 1) = 34 := by rw [hh] at h; exact Option.some.inj h
                unfold cEsc; rw [if_pos h, this]
              · have : ub y (p + 1) = 92 := by rw [hh] at h; exact Option.some.inj h
                unfold cEsc
                rw [if_neg (by rw [h]; decide), if_pos h, this]
            rw [hc]
            have hb1 := bt_ub y (p + 1) hlt2
            refine Ev.step (f := fun k => domesdayref03_C.l0 k y (ac acc ++ [((ub y (p + 1)).toNat : Int)]) ((p + 1 + 1 : Nat) : Int)) (fun k => ?_) ?_
            · rw [domesdayref03_C.j2, if_pos rfl, hw, if_pos (by omega), if_pos (by omega), if_pos (by rw [ac_len]; omega), hb1, wrap_id _ (by omega) (by omega)]
              rfl
            · rw [ac_one]
              exact rc_l0 y hy m (p + 1 + 1) (acc ++ [ub y (p + 1)]) (by omega) (by omega) (by simp; omega)
          | false =>
            have hn : ¬ (((bl y).drop (p + 1)).head? = some 34 ∨ ((bl y).drop (p + 1)).head? = some 92) := fun h => by have := hb.2 h; cases this
            have hc : cEsc ((bl y).drop (p + 1)) = unL ((bl y).drop (p + 1)) := by
              unfold cEsc
              rw [if_neg (fun h => hn (.inl h)), if_neg (fun h => hn (.inr h))]
            rw [hc] at hlen ⊢
            refine Ev.step (f := fun k => (domesdayref03_one.f k y ((p + 1 : Nat) : Int)).bind fun bt187 => (if bt187.2 = 0 then (some ((⟨#[]⟩ : ByteArray), false)) else (if (ac acc).length < 140737488355328 then (domesdayref03_C.l0 k y (ac acc ++ [bt187.1]) (wrap64 ((wrap64 ((p : Int) + bt187.2)) + 1))) else (none)))) (fun k => by rw [domesdayref03_C.j2, if_neg (by decide), hw]) ?_
            refine Ev.bind (f := fun k bt187 => (if bt187.2 = 0 then (some ((⟨#[]⟩ : ByteArray), false)) else (if (ac acc).length < 140737488355328 then (domesdayref03_C.l0 k y (ac acc ++ [bt187.1]) (wrap64 ((wrap64 ((p : Int) + bt187.2)) + 1))) else (none)))) (one_ev y hy (p + 1) (by omega)) ?_
            by_cases g3 : (unL ((bl y).drop (p + 1))).2 = 0
            · rw [if_pos g3]
              exact Ev.congr (f := fun k => some ((⟨#[]⟩ : ByteArray), false)) (fun k => by rw [if_pos (show ((unL ((bl y).drop (p + 1))).2 : Int) = 0 by omega)]) (Ev.now _)
            · rw [if_neg g3]
              refine Ev.congr (f := fun k => domesdayref03_C.l0 k y (ac acc ++ [((unL ((bl y).drop (p + 1))).1.toNat : Int)]) ((p + 1 + (unL ((bl y).drop (p + 1))).2 : Nat) : Int)) (fun k => ?_) ?_
              · rw [if_neg (show ¬ ((unL ((bl y).drop (p + 1))).2 : Int) = 0 by omega), if_pos (by rw [ac_len]; omega), wrap_id ((p : Int) + ((unL ((bl y).drop (p + 1))).2 : Int)) (by omega) (by omega), wrap_id _ (by omega) (by omega)]
                congr 1
                omega
              · rw [ac_one]
                exact rc_l0 y hy m (p + 1 + (unL ((bl y).drop (p + 1))).2) (acc ++ [(unL ((bl y).drop (p + 1))).1]) (by omega) (by omega) (by simp; omega)
        by_cases g4 : p + 1 < y.size
        · have hh := ub_head y (p + 1) g4
          have h0 := bt_ub y (p + 1) g4
          by_cases g5 : ub y (p + 1) = 34
          · refine Ev.step (f := fun k => domesdayref03_C.j2 k y (ac acc) (p : Int) true) (fun k => ?_) (goal1 true ⟨fun _ => .inl (by rw [hh, g5]), fun _ => rfl⟩ (fun _ => g4))
            rw [domesdayref03_C.l0, if_pos (by omega), if_pos (by omega), hub, if_neg n34, if_pos (u92.2 g2), hw, if_pos (by omega), if_pos (by omega), h0, if_pos ((u8_34 _).2 g5)]
          · refine Ev.step (f := fun k => domesdayref03_C.j2 k y (ac acc) (p : Int) (((ub y (p + 1)).toNat : Int) == 92)) (fun k => ?_) (goal1 _ ⟨fun h => .inr ?_, fun h => ?_⟩ (fun _ => g4))
            · rw [domesdayref03_C.l0, if_pos (by omega), if_pos (by omega), hub, if_neg n34, if_pos (u92.2 g2), hw, if_pos (by omega), if_pos (by omega), h0, if_neg (fun e => g5 ((u8_34 _).1 e))]
            · rw [hh, (u8_92 _).1 (beq_iff_eq.1 h)]
            · rcases h with h | h
              · rw [hh] at h; exact absurd (Option.some.inj h) g5
              · rw [hh] at h
                rw [beq_iff_eq]
                exact (u8_92 _).2 (Option.some.inj h)
        · have hnil : (bl y).drop (p + 1) = [] := List.drop_eq_nil_of_le (by rw [show (bl y).length = y.size from len_list y]; omega)
          refine Ev.step (f := fun k => domesdayref03_C.j2 k y (ac acc) (p : Int) false) (fun k => ?_) (goal1 false ⟨fun h => Bool.noConfusion h, fun h => (by rw [hnil] at h; rcases h with h | h <;> cases h)⟩ (fun h => Bool.noConfusion h))
          rw [domesdayref03_C.l0, if_pos (by omega), if_pos (by omega), hub, if_neg n34, if_pos (u92.2 g2), hw, if_neg (by omega)]
      · rw [if_neg g2]
        refine Ev.step (f := fun k => domesdayref03_C.l0 k y (ac acc ++ [((ub y p).toNat : Int)]) ((p + 1 : Nat) : Int)) (fun k => by rw [domesdayref03_C.l0, if_pos (by omega), if_pos (by omega), hub, if_neg n34, if_neg (fun e => g2 (u92.1 e)), if_pos (by rw [ac_len]; omega), hw]) ?_
        rw [ac_one]
        exact rc_l0 y hy m (p + 1) (acc ++ [ub y p]) (by omega) (by omega) (by simp; omega)
    · rw [cF_end y p acc (by omega)]
      refine Ev.step (f := fun k => some (strOfNums (ac acc), true)) (fun k => by rw [domesdayref03_C.l0, if_neg (by omega)]) ?_
      rw [ac_str]
      exact Ev.now _
theorem rc_ev (s : ByteArray) (hs : s.size ≤ 100000) : Ev (fun k => domesdayref03_C.f k s) (cR s) := by
  have bad : Ev (fun k => domesdayref03_C.j0 k s true) ((⟨#[]⟩ : ByteArray), false) :=
    Ev.step (f := fun k => some ((⟨#[]⟩ : ByteArray), false)) (fun k => by rw [domesdayref03_C.j0, if_pos rfl]) (Ev.now _)
  unfold cR
  by_cases h2 : s.size < 2
  · rw [if_pos h2]
    exact Ev.congr (f := fun k => domesdayref03_C.j0 k s true) (fun k => by rw [domesdayref03_C.f, if_pos (by omega)]) bad
  rw [if_neg h2]
  have h0 : bt s 0 = ((ub s 0).toNat : Int) := bt_ub s 0 (by omega)
  have hw : wrap64 ((s.size : Int) - 1) = ((s.size - 1 : Nat) : Int) := by rw [wrap_id _ (by omega) (by omega)]; omega
  have hl := bt_ub s (s.size - 1) (by omega)
  by_cases g1 : ub s 0 = 34
  · by_cases g2 : ub s (s.size - 1) = 34
    · rw [if_pos ⟨g1, g2⟩]
      refine Ev.congr (f := fun k => domesdayref03_C.j0 k s false) (fun k => by
        rw [domesdayref03_C.f, if_neg (by omega), if_pos (by omega), h0, if_pos ((u8_34 _).2 g1), hw, if_pos (by omega), if_pos (by omega), hl, g2]; rfl) ?_
      refine Ev.step (f := fun k => domesdayref03_C.l0 k (s.extract 1 (s.size - 1)) ([] : List Int) 0) (fun k => by rw [domesdayref03_C.j0, if_neg (by decide), hw, if_pos (by omega), if_pos (by omega), Int.toNat_natCast]) ?_
      have hsz : (s.extract 1 (s.size - 1)).size = s.size - 2 := by rw [ByteArray.size_extract]; omega
      have := rc_l0 (s.extract 1 (s.size - 1)) (by omega) (s.size - 2) 0 [] (by omega) (by omega) (Nat.le_refl _)
      rw [List.drop_zero, ext_eq, bl_B, show s.size - 1 - 1 = s.size - 2 by omega] at this
      rw [ext_eq, show s.size - 1 - 1 = s.size - 2 by omega]
      exact this
    · rw [if_neg (fun h => g2 h.2)]
      refine Ev.congr (f := fun k => domesdayref03_C.j0 k s true) (fun k => by
        rw [domesdayref03_C.f, if_neg (by omega), if_pos (by omega), h0, if_pos ((u8_34 _).2 g1), hw, if_pos (by omega), if_pos (by omega), hl]
        rw [show (((ub s (s.size - 1)).toNat : Int) != 34) = true from bne_iff_ne.2 fun e => g2 ((u8_34 _).1 e)]) bad
  · rw [if_neg (fun h => g1 h.1)]
    exact Ev.congr (f := fun k => domesdayref03_C.j0 k s true) (fun k => by rw [domesdayref03_C.f, if_neg (by omega), if_pos (by omega), h0, if_neg (fun e => g1 ((u8_34 _).1 e))]) bad
end Go.Proofs.YtkhbgfnbkdonlaaDoor.Pure
