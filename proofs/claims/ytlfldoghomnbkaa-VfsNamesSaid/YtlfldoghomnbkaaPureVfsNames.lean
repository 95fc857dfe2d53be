/- P6.1: of all names it is told whether they are good. -/
import Derived.Test.YtlfldoghomnbkaaQNames
namespace Go.Proofs.Ytlfldoghomnbkaa.Pure
open Go.RowKit Go.Proofs.Ytlfldoghomnbkaa.QVfs Go.Proofs.YtlfldoghomnbkaaW.PrintWords Go.Proofs.YtlfldoghomnbkaaW.PrintLast
set_option linter.unusedVariables false
set_option linter.unusedSimpArgs false

def isBad (b : UInt8) : Bool := b == 0 || b == 47
theorem index_any : ∀ l : List UInt8, decide (0 ≤ Lib.indexAny l [0, 47]) = l.any isBad
  | [] => rfl
  | b :: l => by
    have ih := index_any l
    have hg := Lib.indexAny_ge [0, 47] l
    have hc : ([0, 47] : List UInt8).contains b = isBad b := by simp [isBad, List.contains, List.elem, Bool.or_comm]; cases h1 : b == 0 <;> cases h2 : b == 47 <;> simp_all
    rw [Lib.indexAny, hc, List.any_cons]
    cases hb : isBad b with
    | true => rfl
    | false =>
      simp only [Bool.false_or, if_false, Bool.false_eq_true, ← ih]
      by_cases h1 : Lib.indexAny l [0, 47] = -1
      · rw [h1]; rfl
      · rw [if_neg (by simpa using h1)]
        exact decide_eq_decide.2 (by omega)
theorem anyBad_eq (s : ByteArray) : anyBad s = s.data.toList.any isBad := index_any _
theorem wrap_id (x : Int) (h : -9223372036854775808 ≤ x) (h' : x ≤ 9223372036854775807) : wrap64 x = x := by unfold wrap64; omega
abbrev L (s : ByteArray) : List UInt8 := s.data.toList
theorem L_len (s : ByteArray) : (L s).length = s.size := by rw [Array.length_toList]; rfl
theorem bt_get (s : ByteArray) (i : Nat) (h : i < (L s).length) : bt s (i : Int) = (((L s)[i]'h).toNat : Int) := by
  have h' : i < s.size := by rw [← L_len]; exact h
  unfold bt
  rw [dif_pos (by simpa using h')]
  simp [ByteArray.getElem_eq_getElem_data]
theorem bad_nat (b : UInt8) : isBad b = (decide ((b.toNat : Int) = 0) || decide ((b.toNat : Int) = 47)) := by
  revert b
  have h : ∀ n : Fin 256, isBad (UInt8.ofNat n.1) = (decide (((UInt8.ofNat n.1).toNat : Int) = 0) || decide (((UInt8.ofNat n.1).toNat : Int) = 47)) := by decide +kernel
  intro b
  have := h ⟨b.toNat, b.toNat_lt⟩
  simpa using this
def tailB (s : ByteArray) : Bool := decide (1 ≤ s.size) && (decide (s.size ≤ 255) && (!(s.toList == [46]) && !(s.toList == [46, 46])))
theorem ref_l (s : ByteArray) (hs : s.size ≤ 1000000) : ∀ m i k : Nat, s.size - i ≤ m → i ≤ s.size → m + 1 ≤ k →
    domesdayref06_Good.l0 k s (i : Int) = some (!((L s).drop i).any isBad && tailB s) := by
  have hend : ∀ k, 1 ≤ k → domesdayref06_Good.l0 k s ((s.size : Nat) : Int) = some (tailB s) := by
    intro k hk
    obtain ⟨k, rfl⟩ : ∃ j, k = j + 1 := ⟨k - 1, by omega⟩
    rw [domesdayref06_Good.l0, if_neg (by omega)]
    unfold tailB
    by_cases g1 : 1 ≤ s.size
    · rw [if_pos (by omega), decide_eq_true g1, Bool.true_and]
      by_cases g2 : s.size ≤ 255
      · rw [if_pos (by omega), decide_eq_true g2, Bool.true_and]
        by_cases g3 : s.toList = [46]
        · rw [if_pos g3]; simp [g3]
        · rw [if_neg g3]
          have : (s.toList == [46]) = false := beq_eq_false_iff_ne.2 g3
          rw [this]; rfl
      · rw [if_neg (by omega), decide_eq_false g2]; rfl
    · rw [if_neg (by omega), decide_eq_false g1]; rfl
  intro m
  induction m with
  | zero =>
    intro i k h1 h2 h3
    obtain rfl : i = s.size := by omega
    rw [hend k (by omega), List.drop_eq_nil_of_le (by rw [L_len]; omega)]; rfl
  | succ m ih =>
    intro i k h1 h2 h3
    by_cases g : i = s.size
    · subst g
      rw [hend k (by omega), List.drop_eq_nil_of_le (by rw [L_len]; omega)]; rfl
    · obtain ⟨k, rfl⟩ : ∃ j, k = j + 1 := ⟨k - 1, by omega⟩
      have hi : i < (L s).length := by rw [L_len]; omega
      rw [domesdayref06_Good.l0, if_pos (by omega), if_pos (by omega), bt_get s i hi, List.drop_eq_getElem_cons hi, List.any_cons, bad_nat]
      by_cases g0 : (((L s)[i]'hi).toNat : Int) = 0
      · rw [if_pos g0, decide_eq_true g0]; rfl
      · rw [if_neg g0, decide_eq_false g0]
        by_cases g1 : (((L s)[i]'hi).toNat : Int) = 47
        · rw [if_pos g1, decide_eq_true g1]; rfl
        · rw [if_neg g1, decide_eq_false g1, wrap_id _ (by omega) (by omega), show ((i : Int) + 1) = ((i + 1 : Nat) : Int) by omega, ih (i + 1) k (by omega) (by omega) (by omega)]
          rfl
theorem good_eq (s : ByteArray) : goodB s = (!(L s).any isBad && tailB s) := by
  unfold goodB tailB
  rw [anyBad_eq]
  cases decide (1 ≤ s.size) <;> cases decide (s.size ≤ 255) <;> cases (L s).any isBad <;> simp
theorem VfsNames : domesdaylaw06_VfsNames.Pure := by
  intro s _
  refine ⟨1002, ?_⟩
  unfold domesdaylaw06_VfsNames.f
  rw [domesdaylaw06_awake.f, Option.bind_some, if_pos rfl, domesdaylaw06_VfsNames.j0]
  by_cases g : s.size ≤ 400
  · rw [if_neg (by simp; omega)]
    unfold vfs_Good.f domesdayref06_Good.f
    have := ref_l s (by omega) 1000 0 1001 (by omega) (by omega) (by omega)
    rw [show ((0 : Nat) : Int) = 0 from rfl] at this
    rw [if_pos (by omega), this, good_eq]
    simp
  · rw [if_pos (by simp; omega)]
    rfl
end Go.Proofs.Ytlfldoghomnbkaa.Pure
