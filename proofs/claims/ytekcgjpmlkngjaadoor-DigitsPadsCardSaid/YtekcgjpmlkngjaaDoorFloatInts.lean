/- Whole numbers below 2^53 as float64: what is written, what is read back, and the difference of two, are exact. -/
import Derived.Laws.FloatArith
namespace FloatInts
open Ieee Go

/-- The word of a whole number. -/
def wd (s : Bool) (d : Nat) : Nat := double.word s (if d = 0 then 0 else (d.log2 + 1022) * 2 ^ 52 + d * 2 ^ (52 - d.log2))

theorem log2_mul_pow (d k : Nat) (hd : d ≠ 0) : (d * 2 ^ k).log2 = d.log2 + k := by
  have h2 : 0 < 2 ^ k := Nat.two_pow_pos k
  have hne : d * 2 ^ k ≠ 0 := Nat.mul_ne_zero hd (by omega)
  rw [Nat.log2_eq_iff hne]
  have h1 := (Nat.log2_eq_iff hd).1 rfl
  constructor
  · rw [Nat.pow_add]; exact Nat.mul_le_mul_right _ h1.1
  · rw [show d.log2 + k + 1 = (d.log2 + 1) + k by omega, Nat.pow_add]; exact Nat.mul_lt_mul_of_pos_right h1.2 h2

theorem cut_exact (s : Bool) (n k : Nat) (way : Toward) (hn : n ≠ 0) : way.cut s (n * 2 ^ k) k = n := by
  have hl := log2_mul_pow n k hn
  have hm : min k ((n * 2 ^ k).log2 + 2) = k := by rw [hl]; omega
  have hp : 0 < 2 ^ k := Nat.two_pow_pos k
  unfold Toward.cut
  simp only [hm, Nat.one_shiftLeft, Nat.mul_div_cancel _ hp, Nat.mul_mod_left]
  cases way <;> simp <;> omega

theorem nearest_exact (s : Bool) (d k : Nat) (hd : d < 2 ^ 53) (hk : k ≤ 1074) : double.nearest s (d * 2 ^ k) (-(k : Int)) = wd s d := by
  by_cases h0 : d = 0
  · subst h0; simp [Format.nearest, wd]
  have hp : 0 < 2 ^ k := Nat.two_pow_pos k
  have hne : d * 2 ^ k ≠ 0 := Nat.mul_ne_zero h0 (by omega)
  have hl := log2_mul_pow d k h0
  have hlt : d.log2 < 53 := (Nat.log2_lt h0).2 hd
  have h1 := (Nat.log2_eq_iff h0).1 rfl
  unfold Format.nearest wd
  rw [if_neg hne, if_neg h0]
  have hlast : max (-(k : Int) + (d * 2 ^ k).log2 - double.fractionBits) double.leastPlace = (d.log2 : Int) - 52 := by
    rw [hl]
    have e1 : (double.fractionBits : Int) = 52 := rfl
    have e2 : double.leastPlace = -1074 := by decide
    rw [e1, e2]
    push_cast
    omega
  simp only [hlast]
  have hkept : Toward.even.cut s ((d * 2 ^ k) <<< (-(k : Int) - ((d.log2 : Int) - 52)).toNat) (((d.log2 : Int) - 52) - -(k : Int)).toNat = d * 2 ^ (52 - d.log2) := by
    by_cases hc : k + d.log2 ≤ 52
    · have ea : (-(k : Int) - ((d.log2 : Int) - 52)).toNat = 52 - d.log2 - k := by omega
      have eb : (((d.log2 : Int) - 52) - -(k : Int)).toNat = 0 := by omega
      rw [ea, eb, Nat.shiftLeft_eq, Nat.mul_assoc, ← Nat.pow_add, show k + (52 - d.log2 - k) = 52 - d.log2 by omega]
      have hp2 : 0 < 2 ^ (52 - d.log2) := Nat.two_pow_pos _
      have := cut_exact s (d * 2 ^ (52 - d.log2)) 0 .even (Nat.mul_ne_zero h0 (by omega))
      simpa using this
    · have ea : (-(k : Int) - ((d.log2 : Int) - 52)).toNat = 0 := by omega
      have eb : (((d.log2 : Int) - 52) - -(k : Int)).toNat = k - (52 - d.log2) := by omega
      rw [ea, eb, Nat.shiftLeft_zero]
      have e3 : d * 2 ^ k = (d * 2 ^ (52 - d.log2)) * 2 ^ (k - (52 - d.log2)) := by
        rw [Nat.mul_assoc, ← Nat.pow_add]; congr 2; omega
      rw [e3]
      have hp2 : 0 < 2 ^ (52 - d.log2) := Nat.two_pow_pos _
      exact cut_exact s _ _ .even (Nat.mul_ne_zero h0 (by omega))
  rw [hkept]
  have e2 : double.leastPlace = -1074 := by decide
  have e3 : double.binade = 2 ^ 52 := rfl
  have e4 : double.infRung = 2047 * 2 ^ 52 := by decide
  rw [e2, e3, e4]
  have e5 : ((d.log2 : Int) - 52 - -1074).toNat = d.log2 + 1022 := by omega
  rw [e5]
  have hk2 : d * 2 ^ (52 - d.log2) < 2 ^ 53 := by
    calc d * 2 ^ (52 - d.log2) < 2 ^ (d.log2 + 1) * 2 ^ (52 - d.log2) := Nat.mul_lt_mul_of_pos_right h1.2 (Nat.two_pow_pos _)
      _ = 2 ^ 53 := by rw [← Nat.pow_add]; congr 1; omega
  rw [Nat.min_eq_left (by omega)]

theorem read_wd (s : Bool) (d : Nat) (hd : d < 2 ^ 53) : ∃ k : Nat, k ≤ 1074 ∧ double.read (wd s d) = .number s (d * 2 ^ k) (-(k : Int)) := by
  have e2 : double.leastPlace = -1074 := by decide
  have e3 : double.binade = 2 ^ 52 := rfl
  have e4 : double.infRung = 2047 * 2 ^ 52 := by decide
  have e5 : double.signWeight = 2 ^ 63 := rfl
  by_cases h0 : d = 0
  · subst h0
    obtain ⟨k, hk⟩ : ∃ k : Nat, k = 1074 := ⟨_, rfl⟩
    refine ⟨k, by omega, ?_⟩
    rw [Nat.zero_mul, hk]; cases s <;> decide
  have hlt : d.log2 < 53 := (Nat.log2_lt h0).2 hd
  have h1 := (Nat.log2_eq_iff h0).1 rfl
  have hk2 : d * 2 ^ (52 - d.log2) < 2 ^ 53 := by
    calc d * 2 ^ (52 - d.log2) < 2 ^ (d.log2 + 1) * 2 ^ (52 - d.log2) := Nat.mul_lt_mul_of_pos_right h1.2 (Nat.two_pow_pos _)
      _ = 2 ^ 53 := by rw [← Nat.pow_add]; congr 1; omega
  have hk1 : 2 ^ 52 ≤ d * 2 ^ (52 - d.log2) := by
    calc 2 ^ 52 = 2 ^ d.log2 * 2 ^ (52 - d.log2) := by rw [← Nat.pow_add]; congr 1; omega
      _ ≤ _ := Nat.mul_le_mul_right _ h1.1
  refine ⟨52 - d.log2, by omega, ?_⟩
  unfold Format.read wd
  rw [if_neg h0, e2, e3, e4, e5]
  generalize hK : d * 2 ^ (52 - d.log2) = K at *
  have hr : (d.log2 + 1022) * 2 ^ 52 + K < 2 ^ 63 := by omega
  have hm : double.word s ((d.log2 + 1022) * 2 ^ 52 + K) % 2 ^ 63 = (d.log2 + 1022) * 2 ^ 52 + K := by
    unfold Format.word; rw [e5]; split <;> omega
  have hs : (double.word s ((d.log2 + 1022) * 2 ^ 52 + K) / 2 ^ 63 % 2 == 1) = s := by
    unfold Format.word; rw [e5]; cases s
    · simp; omega
    · simp; omega
  simp only [hm, hs]
  rw [if_neg (by omega), if_pos (by omega)]
  have hd1 : ((d.log2 + 1022) * 2 ^ 52 + K) / 2 ^ 52 = d.log2 + 1023 := by omega
  have hd2 : ((d.log2 + 1022) * 2 ^ 52 + K) % 2 ^ 52 = K - 2 ^ 52 := by omega
  rw [hd1, hd2]
  have hq : 2 ^ 52 + (K - 2 ^ 52) = K := by omega
  have hw : (-1074 : Int) + ((d.log2 + 1023 - 1 : Nat) : Int) = -((52 - d.log2 : Nat) : Int) := by omega
  rw [hq, hw]

theorem ofInt (n : Nat) (hn : n < 2 ^ 53) : floatOfInt .f64 (n : Int) = wd false n := by
  have := nearest_exact false n 0 hn (by omega)
  simpa [floatOfInt, FloatKind.nearest, FloatKind.encode, FloatKind.format, Format.write, show ¬ ((n : Int) < 0) by omega] using this

theorem sub_wd (n m : Nat) (hn : n < 2 ^ 53) (hm : m < 2 ^ 53) : ∃ s, floatBits .sub .f64 (wd false n) (wd false m) = some (wd s ((n : Int) - m).natAbs) ∧ (s = true → (n : Int) - m ≤ 0) ∧ (s = false → 0 ≤ (n : Int) - m) := by
  obtain ⟨k, hk, h1⟩ := read_wd false n hn
  obtain ⟨j, hj, h2⟩ := read_wd false m hm
  unfold floatBits
  simp only [FloatKind.format, Format.sub, h1, h2, Datum.opposite, Datum.sum, Option.map_some]
  -- the greater of the two
  obtain ⟨b, hb, hb1, hb2, hbm⟩ : ∃ b : Nat, min (-(k : Int)) (-(j : Int)) = -(b : Int) ∧ k ≤ b ∧ j ≤ b ∧ b ≤ 1074 := ⟨max k j, by omega, by omega, by omega, by omega⟩
  rw [hb]
  have e1 : ((-(k : Int)) - -(b : Int)).toNat = b - k := by omega
  have e2 : ((-(j : Int)) - -(b : Int)).toNat = b - j := by omega
  rw [e1, e2]
  have s1 : signed false (n * 2 ^ k) (b - k) = (n : Int) * 2 ^ b := by
    simp only [signed, Bool.false_eq_true, if_false, Nat.shiftLeft_eq]
    rw [Nat.mul_assoc, ← Nat.pow_add, show k + (b - k) = b by omega]; push_cast; rfl
  have s2 : signed (!false) (m * 2 ^ j) (b - j) = -((m : Int) * 2 ^ b) := by
    simp only [signed, Bool.not_false, if_true, Nat.shiftLeft_eq]
    rw [Nat.mul_assoc, ← Nat.pow_add, show j + (b - j) = b by omega]; push_cast; rfl
  rw [s1, s2]
  have ht : (n : Int) * 2 ^ b + -((m : Int) * 2 ^ b) = ((n : Int) - m) * 2 ^ b := by rw [Int.sub_mul]; omega
  rw [ht]
  have hp : (0 : Int) < 2 ^ b := Int.pow_pos (by decide)
  have hab : (((n : Int) - m) * 2 ^ b).natAbs = ((n : Int) - m).natAbs * 2 ^ b := by
    rw [Int.natAbs_mul]; congr 1
  rw [hab]
  unfold Format.write
  simp only
  refine ⟨_, congrArg some (nearest_exact _ _ b (by omega) hbm), ?_, ?_⟩
  · intro h
    split at h
    · simp at h
    · have := of_decide_eq_true h
      by_cases hz : (n : Int) - m ≤ 0
      · exact hz
      · have := Int.mul_pos (show 0 < (n : Int) - m by omega) hp; omega
  · intro h
    split at h
    · rename_i hz
      rcases Int.mul_eq_zero.1 hz with h | h <;> omega
    · have := of_decide_eq_false h
      by_cases hz : 0 ≤ (n : Int) - m
      · exact hz
      · have := Int.mul_neg_of_neg_of_pos (show (n : Int) - m < 0 by omega) hp; omega

theorem toInt_wd (s : Bool) (d : Nat) (hd : d < 2 ^ 53) : floatToIntVal .f64 (wd s d) .i64 = some (if s then -(d : Int) else d) := by
  obtain ⟨k, hk, h1⟩ := read_wd s d hd
  unfold floatToIntVal
  have h2 : (FloatKind.f64.decode (wd s d)).toInt .zero = some (if s then -(d : Int) else d) := by
    simp only [FloatKind.decode, FloatKind.format, h1, Datum.toInt, Datum.integral]
    have e1 : (-(k : Int)).toNat = 0 := by omega
    have e2 : (-(-(k : Int))).toNat = k := by omega
    rw [e1, e2, Nat.shiftLeft_zero]
    by_cases h0 : d = 0
    · subst h0
      simp [Toward.cut, signed]
    · rw [cut_exact s d k .zero h0]
      simp [signed]
  rw [h2]
  simp only
  rw [if_pos]
  · simp [IntKind.min, IntKind.max, IntKind.signed, IntKind.bits]
    cases s <;> simp <;> omega

theorem sub_int (n m : Nat) (hn : n < 2 ^ 53) (hm : m < 2 ^ 53) : ∃ r, floatBits .sub .f64 (floatOfInt .f64 n) (floatOfInt .f64 m) = some r ∧ floatToIntVal .f64 r .i64 = some ((n : Int) - m) := by
  obtain ⟨s, h, h1, h2⟩ := sub_wd n m hn hm
  rw [ofInt n hn, ofInt m hm]
  refine ⟨_, h, ?_⟩
  rw [toInt_wd s _ (by omega)]
  cases s
  · have := h2 rfl; simp; omega
  · have := h1 rfl; simp; omega
end FloatInts
