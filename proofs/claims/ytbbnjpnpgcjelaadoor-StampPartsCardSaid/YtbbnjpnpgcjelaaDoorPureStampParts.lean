/- P5.1: F and T are what they say; the year and the day of the year are the date's. No condition. -/
import Derived.Test.YtbbnjpnpgcjelaaDoorPureStm3
import Derived.Test.YtbbnjpnpgcjelaaDoorQParts
namespace Go.Proofs.YtbbnjpnpgcjelaaDoor.Pure
open Go.RowKit Go.Lib Go.Proofs.YtbbnjpnpgcjelaaDoor.QStm Go.Proofs.YtbbnjpnpgcjelaaDoor.DateMath Go.Proofs.YtbbnjpnpgcjelaaDoorW.PrintWords Go.Proofs.YtbbnjpnpgcjelaaDoorW.PrintLast Go.Proofs.YtbbnjpnpgcjelaaDoorW.PrintMore
set_option linter.unusedVariables false
theorem three_digits (n : Int) (h0 : 0 ≤ n) (h1 : n < 1000) : B (List.replicate (3 - (L (dec n)).length) 48 ++ L (dec n)) = three n := by
  obtain ⟨n, rfl⟩ := Int.eq_ofNat_of_zero_le h0
  have hd : L (dec (n : Int)) = dd n := by unfold dec; rw [L_B, itoa_nonneg, dd_eq n (by omega)]
  have e := pad3 (n : Int) h0 h1
  rw [show (3 : Int) = ((3 : Nat) : Int) from rfl, pad_eq n (by omega) 3 (by omega)] at e
  rw [hd]
  exact Option.some.inj e
theorem StampParts (a0 a1 : Int) (w0 : (Lit.int .i64 a0).wf = true) (w1 : (Lit.int .i64 a1).wf = true) : ∃ k, domesdaylaw05_StampParts.f k a0 a1 = some true := by
  have b0 := Go.bounds_i64 w0
  obtain ⟨Y, M, D, h, mi, s, wd, yd, hd, n, g1, g2⟩ := both a0 a1 b0.1 b0.2
  refine Ev.rounds ?_
  unfold domesdaylaw05_StampParts.f
  refine Ev.bind g1 ?_
  simp only [digits_Dec_eq yd (by have := n.y0; omega) (by have := n.y1; omega), Option.bind_some]
  have hy0 := n.y0
  have hy1 := n.y1
  have last : ∀ x6 : ByteArray, x6 = three yd → Ev (fun k => domesdaylaw05_StampParts.l0 k a0 a1 x6 Y M D h mi s wd yd) true := by
    intro x6 hx
    subst hx
    have e1 := format_ev n g1 (⟨#[37, 70, 32, 37, 84]⟩ : ByteArray) (by decide)
    have e2 := format_ev n g1 (⟨#[37, 89, 45, 37, 109, 45, 37, 100, 32, 37, 72, 58, 37, 77, 58, 37, 83]⟩ : ByteArray) (by decide)
    have e3 := format_ev n g1 (⟨#[37, 89, 32, 37, 106]⟩ : ByteArray) (by decide)
    have f1 : fm (dv a0 a1 Y M D h mi s wd yd) (L (⟨#[37, 70, 32, 37, 84]⟩ : ByteArray)) = fm (dv a0 a1 Y M D h mi s wd yd) (L (⟨#[37, 89, 45, 37, 109, 45, 37, 100, 32, 37, 72, 58, 37, 77, 58, 37, 83]⟩ : ByteArray)) := by
      rw [show fm (dv a0 a1 Y M D h mi s wd yd) (L (⟨#[37, 70, 32, 37, 84]⟩ : ByteArray)) = L (dashed Y M D) ++ (32 :: (L (colons h mi s) ++ [])) from rfl,
        show fm (dv a0 a1 Y M D h mi s wd yd) (L (⟨#[37, 89, 45, 37, 109, 45, 37, 100, 32, 37, 72, 58, 37, 77, 58, 37, 83]⟩ : ByteArray)) = L (dec Y) ++ (45 :: (L (two M) ++ (45 :: (L (two D) ++ (32 :: (L (two h) ++ (58 :: (L (two mi) ++ (58 :: (L (two s) ++ [])))))))))) from rfl]
      unfold dashed colons
      simp only [L_app, show L (⟨#[58]⟩ : ByteArray) = [58] from rfl, show L (⟨#[45]⟩ : ByteArray) = [45] from rfl, List.append_assoc, List.append_nil, List.cons_append, List.nil_append]
    have f3 : B (fm (dv a0 a1 Y M D h mi s wd yd) (L (⟨#[37, 89, 32, 37, 106]⟩ : ByteArray))) = (dec Y ++ (⟨#[32]⟩ : ByteArray)) ++ three yd := by
      apply L_inj
      rw [show fm (dv a0 a1 Y M D h mi s wd yd) (L (⟨#[37, 89, 32, 37, 106]⟩ : ByteArray)) = L (dec Y) ++ (32 :: (L (three yd) ++ [])) from rfl, L_B]
      simp only [L_app, show L (⟨#[32]⟩ : ByteArray) = [32] from rfl, List.append_assoc, List.append_nil, List.cons_append, List.nil_append]
    rw [f1] at e1
    rw [f3] at e3
    have hs := dec_size Y n.Y0 n.Y1
    have h3 := three_size yd
    refine Ev.step (f := fun k => (domesdaylaw05_awake.f k).bind fun t131 => (if t131 = true then ((stamp_Format.f k (⟨#[37, 70, 32, 37, 84]⟩ : ByteArray) a0 a1).bind fun t132 => ((stamp_Format.f k (⟨#[37, 89, 45, 37, 109, 45, 37, 100, 32, 37, 72, 58, 37, 77, 58, 37, 83]⟩ : ByteArray) a0 a1).bind fun t133 => (if t132.toList = t133.toList then ((stamp_Format.f k (⟨#[37, 89, 32, 37, 106]⟩ : ByteArray) a0 a1).bind fun t134 => ((digits_Dec.f Y).bind fun t135 => (if t135.size + 1 ≤ 9223372036854775807 then (if t135.size + 1 + (three yd).size ≤ 9223372036854775807 then (some (t134.toList == ((t135 ++ (⟨#[32]⟩ : ByteArray)) ++ three yd).toList)) else (none)) else (none)))) else (none)))) else (none))) (fun k => by rw [domesdaylaw05_StampParts.l0, if_neg (by omega)]) ?_
    refine Ev.bind awake_ev ?_
    simp only [if_true]
    refine Ev.bind e1 ?_
    refine Ev.bind e2 ?_
    simp only [if_true]
    refine Ev.bind e3 ?_
    rw [digits_Dec_eq Y n.Y0 n.Y1, Option.bind_some, if_pos (by omega), if_pos (by omega), beq_self_eq_true]
    exact Ev.now true
  have go : ∀ (j : Nat) (x6 : ByteArray), 3 - x6.size = j → B (List.replicate j 48 ++ L x6) = three yd → Ev (fun k => domesdaylaw05_StampParts.l0 k a0 a1 x6 Y M D h mi s wd yd) true := by
    intro j
    induction j with
    | zero =>
      intro x6 h1 h2
      refine last x6 ?_
      rw [← h2]; simp [B_L]
    | succ j ih =>
      intro x6 h1 h2
      refine Ev.step (f := fun k => domesdaylaw05_StampParts.l0 k a0 a1 ((⟨#[48]⟩ : ByteArray) ++ x6) Y M D h mi s wd yd) (fun k => by rw [domesdaylaw05_StampParts.l0, if_pos (by omega), if_pos (by omega)]) ?_
      refine ih _ (by rw [ByteArray.size_append]; show 3 - (1 + x6.size) = j; omega) ?_
      rw [← h2, L_app, List.replicate_succ', show L (⟨#[48]⟩ : ByteArray) = [48] from rfl, List.append_assoc]
  exact go _ (dec yd) rfl (by have := three_digits yd (by omega) (by omega); rw [L_len] at this; exact this)
end Go.Proofs.YtbbnjpnpgcjelaaDoor.Pure
