/- P1.2: Left and Right put the blanks that the document counts: in plain numbers and texts. -/
import Derived.Test.YtekcgjpmlkngjaaDoorQDigitsPadsx1
set_option linter.unusedVariables false
namespace Go.Proofs.YtekcgjpmlkngjaaDoor.Pure
open Go.RowKit Go.Proofs.YtekcgjpmlkngjaaDoor.QDigitsPads Go.Proofs.YtekcgjpmlkngjaaDoor.Ext Go.Proofs.YtekcgjpmlkngjaaDoorW.PrintWords Go.Proofs.YtekcgjpmlkngjaaDoorW.PrintLast
theorem awake_ev : domesdaylaw01_awake.f = some true := by kernel_rfl
theorem blank_succ (n : Nat) : blankB n ++ (⟨#[32]⟩ : ByteArray) = blankB (n + 1) := by
  unfold blankB
  apply ByteArray.ext
  apply Array.ext'
  simp [List.replicate_succ', ByteArray.data_append]
theorem blanks_l0 (d : Nat) : ∀ (k i n : Nat), i + d = n → d < k → n ≤ 10000 → domesdayref01_Blanks.l0 k (n : Int) (blankB i) (i : Int) = some (blankB n) := by
  induction d with
  | zero =>
    intro k i n h hk hn
    obtain ⟨k, rfl⟩ : ∃ m, k = m + 1 := ⟨k - 1, by omega⟩
    obtain rfl : i = n := by omega
    simp only [domesdayref01_Blanks.l0]
    rw [if_neg (by omega)]
  | succ d ih =>
    intro k i n h hk hn
    obtain ⟨k, rfl⟩ : ∃ m, k = m + 1 := ⟨k - 1, by omega⟩
    simp only [domesdayref01_Blanks.l0]
    have hs : (blankB i).size = i := by simp [blankB, ByteArray.size]
    have hw : wrap64 ((i : Int) + 1) = ((i + 1 : Nat) : Int) := by unfold wrap64; omega
    rw [if_pos (by omega), if_pos (by omega), hw, blank_succ]
    exact ih k (i + 1) n (by omega) (by omega) hn
theorem lacks_eq (a b : Int) (ha : -9223372036854775808 ≤ a ∧ a ≤ 9223372036854775807) : domesdayref01_Lacks.f a b = some (lackN (clip a) (clip b) : Int) := by
  unfold domesdayref01_Lacks.f lackN clip
  congr 1
  unfold mx mn wrap64
  omega
theorem DigitsPads (a0 : ByteArray) (a1 : Int) (a2 : Int) (h0 : a0.size ≤ maxLen) (h1 : (Lit.int .i64 a1).wf = true) (h2 : (Lit.int .i64 a2).wf = true) : ∃ k, domesdaylaw01_DigitsPads.f k a0 a1 a2 = some true := by
  refine ⟨10003, ?_⟩
  have g1 : -9223372036854775808 ≤ a1 ∧ a1 ≤ 9223372036854775807 := by simpa [Lit.wf, IntKind.min, IntKind.max, IntKind.signed, IntKind.bits] using h1
  unfold domesdaylaw01_DigitsPads.f
  rw [awake_ev]
  simp only [Option.bind_some, if_true]
  rw [show (10003 : Nat) = 10002 + 1 from rfl]
  simp only [domesdaylaw01_DigitsPads.j0, decide_eq_true_eq]
  split
  · rw [awake_ev]; rfl
  · rename_i hs
    have hl : lackN (clip a1) (clip a2) ≤ 10000 := by have := clip_le a2; unfold lackN; omega
    have hB := blanks_l0 (lackN (clip a1) (clip a2)) 10002 0 _ (by omega) (by omega) hl
    have hz : (blankB (lackN (clip a1) (clip a2))).size = lackN (clip a1) (clip a2) := by simp [blankB, ByteArray.size]
    rw [lacks_eq a1 a2 g1]
    simp only [Option.bind_some]
    rw [show domesdayref01_Blanks.f 10002 ((lackN (clip a1) (clip a2) : Nat) : Int) = _ from hB]
    simp only [Option.bind_some, digits_Left.f, digits_Right.f]
    rw [if_pos (by omega)]
    simp only [Option.bind_some, if_true]
    rw [if_pos (by omega), if_pos (by omega)]
    simp only [Option.bind_some]
    rw [if_pos (by omega)]
    simp
end Go.Proofs.YtekcgjpmlkngjaaDoor.Pure
