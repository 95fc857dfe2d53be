/- Beginnings and ends of a text, cut at a character's edge: the characters are the whole text's. -/
import Derived.Test.YtngcecmfgjgigaaDoorPureWidthTexts
namespace Go.Proofs.YtngcecmfgjgigaaDoor.PureParts
open Go.RowKit Go.Lib Go.Proofs.YtngcecmfgjgigaaDoor.PureTexts Go.Proofs.YtngcecmfgjgigaaDoor.Ext
set_option linter.unusedVariables false

set_option maxRecDepth 100000 in
set_option maxHeartbeats 2000000 in
theorem decodeN_less (n m b0 b1 b2 b3 : Nat) (hm : m ≤ n) (h : (decodeN n b0 b1 b2 b3).2 ≤ m) : decodeN m b0 b1 b2 b3 = decodeN n b0 b1 b2 b3 := by
  unfold decodeN at h ⊢
  repeat' split at h
  all_goals (repeat' split)
  all_goals first | rfl | (exfalso; simp only at h; omega) | (exfalso; omega)
set_option maxRecDepth 100000 in
set_option maxHeartbeats 2000000 in
theorem decodeN_same (m b0 b1 b2 b3 c1 c2 c3 : Nat) (h1 : 1 < m → b1 = c1) (h2 : 2 < m → b2 = c2) (h3 : 3 < m → b3 = c3) : decodeN m b0 b1 b2 b3 = decodeN m b0 c1 c2 c3 := by
  by_cases g1 : 1 < m
  · rw [h1 g1]
    by_cases g2 : 2 < m
    · rw [h2 g2]
      by_cases g3 : 3 < m
      · rw [h3 g3]
      · unfold decodeN
        simp only [show ¬ 3 < m from g3, false_and, and_false, if_false]
    · unfold decodeN
      simp only [show ¬ 3 < m from by omega, g2, false_and, and_false, if_false]
  · unfold decodeN
    simp only [show ¬ 3 < m from by omega, show ¬ 2 < m from by omega, g1, false_and, and_false, if_false]
theorem get_extract (s : ByteArray) (p i j : Nat) (h : p + j < i) (hi : i ≤ s.size) : (s.extract p i).get! j = s.get! (p + j) := by
  have h1 : j < (s.extract p i).size := by rw [ByteArray.size_extract]; omega
  have h2 : p + j < s.size := by omega
  simp [ByteArray.get!, ByteArray.data_extract]
  rw [getElem!_pos _ _ (by simpa using h1), getElem!_pos _ _ (by simpa using h2)]
  simp
theorem nx_prefix (s : ByteArray) (pos i : Nat) (hp : pos < i) (hi : i ≤ s.size) (h : (nx (s.extract pos s.size)).2 ≤ ((i - pos : Nat) : Int)) : nx (s.extract pos i) = nx (s.extract pos s.size) := by
  have e : decodeGo (s.extract pos i) = decodeGo (s.extract pos s.size) := by
    have z1 : (s.extract pos i).size = i - pos := by rw [ByteArray.size_extract]; omega
    have z2 : (s.extract pos s.size).size = s.size - pos := by rw [ByteArray.size_extract]; omega
    have hd : (decodeGo (s.extract pos s.size)).2 ≤ i - pos := by
      unfold nx at h
      split at h
      · next g => omega
      · have h' : (((decodeGo (s.extract pos s.size)).2 : Nat) : Int) ≤ ((i - pos : Nat) : Int) := h
        omega
    unfold decodeGo at hd ⊢
    rw [if_neg (by omega)] at hd
    rw [if_neg (by omega), if_neg (by omega), decode_at, decode_at, z1, z2]
    rw [decode_at, z2] at hd
    simp only [Nat.zero_add, Nat.sub_zero] at hd ⊢
    rw [← decodeN_less _ (i - pos) _ _ _ _ (by omega) hd, get_extract s pos i 0 (by omega) hi, get_extract s pos s.size 0 (by omega) (Nat.le_refl _)]
    refine decodeN_same _ _ _ _ _ _ _ _ (fun g => ?_) (fun g => ?_) (fun g => ?_)
    · rw [get_extract s pos i 1 (by omega) hi, get_extract s pos s.size 1 (by omega) (Nat.le_refl _)]
    · rw [get_extract s pos i 2 (by omega) hi, get_extract s pos s.size 2 (by omega) (Nat.le_refl _)]
    · rw [get_extract s pos i 3 (by omega) hi, get_extract s pos s.size 3 (by omega) (Nat.le_refl _)]
  unfold nx
  rw [e]
end Go.Proofs.YtngcecmfgjgigaaDoor.PureParts
