/- P5.2: two formats, the first of which doesn't end with a %, are written one behind the other (60 bytes each). -/
import Derived.Test.YtbbnjpnpgcjelaaDoorPureStm3
import Derived.Test.YtbbnjpnpgcjelaaDoorQJoins
namespace Go.Proofs.YtbbnjpnpgcjelaaDoor.Pure
open Go.RowKit Go.Lib Go.Proofs.YtbbnjpnpgcjelaaDoor.QStm Go.Proofs.YtbbnjpnpgcjelaaDoor.DateMath Go.Proofs.YtbbnjpnpgcjelaaDoorW.PrintWords Go.Proofs.YtbbnjpnpgcjelaaDoorW.PrintLast Go.Proofs.YtbbnjpnpgcjelaaDoorW.PrintMore
set_option linter.unusedVariables false
theorem fm_length (X : Int → ByteArray × Bool) (K : Nat) (hK : ∀ c, (X c).1.size ≤ K + 1) : ∀ (m : Nat) (f : List UInt8), f.length ≤ m → (fm X f).length ≤ (K + 1) * f.length := by
  intro m
  induction m with
  | zero =>
    intro f hf
    obtain rfl := List.length_eq_zero_iff.1 (Nat.le_zero.1 hf)
    simp [fm]
  | succ m ih =>
    intro f hf
    match f, hf with
    | [], _ => simp [fm]
    | [c], _ => simp [fm]
    | c :: d :: r, hf =>
      have e1 := ih (d :: r) (by simp at hf ⊢; omega)
      have e2 := ih r (by simp at hf ⊢; omega)
      have hc := hK (d.toNat : Int)
      rw [← L_len] at hc
      simp only [List.length_cons, Nat.mul_add, Nat.mul_one] at e1 ⊢
      rw [fm]
      repeat' split
      all_goals (simp only [List.length_append, List.length_cons]; omega)
theorem StampJoins (a0 a1 : ByteArray) (a2 : Int) (w0 : a0.size ≤ maxLen) (w1 : a1.size ≤ maxLen) (w2 : (Lit.int .i64 a2).wf = true) : ∃ k, domesdaylaw05_StampJoins.f k a0 a1 a2 = some true := by
  have b1 := Go.bounds_i64 w2
  have aw : ∀ x0 x1 x2, Ev (fun k => domesdaylaw05_StampJoins.j0 k x0 x1 x2 true) true := fun x0 x1 x2 =>
    Ev.step (f := fun k => (domesdaylaw05_awake.f k).bind fun t => some t) (fun k => by rw [domesdaylaw05_StampJoins.j0, if_pos rfl]) (Ev.bind (f := fun _ t => some t) awake_ev (Ev.now true))
  refine Ev.rounds ?_
  unfold domesdaylaw05_StampJoins.f
  refine Ev.bind awake_ev ?_
  simp only [if_true]
  by_cases h1 : (a0.size : Int) > 60
  · simp only [if_pos h1]; exact aw _ _ _
  simp only [if_neg h1]
  by_cases h2 : (a1.size : Int) > 60
  · simp only [if_pos h2]; exact aw _ _ _
  simp only [if_neg h2]
  have main : (∀ h : L a0 ≠ [], (L a0).getLast h ≠ 37) → Ev (fun k => domesdaylaw05_StampJoins.j0 k a0 a1 a2 false) true := by
    intro hl
    obtain ⟨Y, M, D, h, mi, s, wd, yd, hd, n, g1, g2⟩ := both a2 0 b1.1 b1.2
    have e0 := format_ev n g1 a0 (by omega)
    have e1 := format_ev n g1 a1 (by omega)
    have e2 := format_ev n g1 (a0 ++ a1) (by rw [ByteArray.size_append]; omega)
    have l0 := fm_length _ 999 (dv_size n) _ (L a0) (Nat.le_refl _)
    have l1 := fm_length _ 999 (dv_size n) _ (L a1) (Nat.le_refl _)
    rw [L_len] at l0 l1
    have hj := fm_app (dv a2 0 Y M D h mi s wd yd) (L a1) _ (L a0) (Nat.le_refl _) hl
    rw [L_app, hj, ← B_app] at e2
    generalize fm (dv a2 0 Y M D h mi s wd yd) (L a0) = F0 at *
    generalize fm (dv a2 0 Y M D h mi s wd yd) (L a1) = F1 at *
    refine Ev.step (f := fun k => (stamp_Format.f k (a0 ++ a1) a2 0).bind fun t105 => ((stamp_Format.f k a0 a2 0).bind fun t106 => ((stamp_Format.f k a1 a2 0).bind fun t107 => (if t106.size + t107.size ≤ 9223372036854775807 then (some (t105.toList == (t106 ++ t107).toList)) else (none))))) (fun k => by rw [domesdaylaw05_StampJoins.j0, if_neg (by decide), if_pos (by omega)]) ?_
    refine Ev.bind e2 ?_
    refine Ev.bind e0 ?_
    refine Ev.bind (f := fun _ t107 => (if (B F0).size + t107.size ≤ 9223372036854775807 then (some ((B F0 ++ B F1).toList == (B F0 ++ t107).toList)) else (none))) e1 ?_
    rw [if_pos (by rw [B_size, B_size]; omega), beq_self_eq_true]
    exact Ev.now true
  by_cases h3 : (a0.size : Int) > 0
  · simp only [if_pos h3]
    have w1 : wrap64 ((a0.size : Int) - 1) = ((a0.size - 1 : Nat) : Int) := by rw [wrap_id _ (by omega) (by omega)]; omega
    simp only [w1]
    simp only [if_pos (show (0 : Int) ≤ ((a0.size - 1 : Nat) : Int) by omega), if_pos (show ((a0.size - 1 : Nat) : Int) < (a0.size : Int) by omega)]
    have hb := bt_ub a0 (a0.size - 1) (by omega)
    have hlast : ∀ h : L a0 ≠ [], (L a0).getLast h = ub a0 (a0.size - 1) := by
      intro h
      rw [List.getLast_eq_getElem]
      unfold ub
      have hx : a0.size - 1 < (L a0).length := by rw [L_len]; omega
      rw [List.getD_eq_getElem?_getD, List.getElem?_eq_getElem hx]
      simp only [L_len, Option.getD_some]
    by_cases c : bt a0 ((a0.size - 1 : Nat) : Int) = 37
    · simp only [c, beq_self_eq_true]; exact aw _ _ _
    · rw [show (bt a0 ((a0.size - 1 : Nat) : Int) == 37) = false from beq_eq_false_iff_ne.2 c]
      refine main fun h e => ?_
      rw [hlast h] at e
      rw [e] at hb
      exact c hb.symm
  · simp only [if_neg h3]
    refine main fun h => absurd ?_ h
    apply List.length_eq_zero_iff.1
    rw [L_len]; omega
end Go.Proofs.YtbbnjpnpgcjelaaDoor.Pure
