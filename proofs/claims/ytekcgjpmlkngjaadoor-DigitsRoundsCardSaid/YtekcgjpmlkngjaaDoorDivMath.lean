/- Long division of two words by one, in plain numbers. -/
namespace DivMath
/-- Where a digit stands: the guess q, what it leaves r; t: the right one. -/
structure At (a b B U u t q r : Nat) : Prop where
  sum : q * a + r = U
  le : t ≤ q
section
variable {a b B U u t q r : Nat}
theorem expand (a b B q : Nat) : q * (a * B + b) = q * a * B + q * b := by rw [Nat.mul_add, Nat.mul_assoc]
/-- The first guess. -/
theorem first (ha : 0 < a) (hu : u < B) : At a b B U u ((U * B + u) / (a * B + b)) (U / a) (U % a) where
  sum := by rw [Nat.mul_comm]; exact Nat.div_add_mod U a
  le := by
    refine (Nat.le_div_iff_mul_le ha).2 ?_
    generalize ht : (U * B + u) / (a * B + b) = t
    have h1 : t * (a * B + b) ≤ U * B + u := by rw [← ht]; exact Nat.div_mul_le_self _ _
    rw [expand] at h1
    rcases Nat.lt_or_ge U (t * a) with h | h
    · exfalso
      have h2 : (U + 1) * B ≤ t * a * B := Nat.mul_le_mul_right _ h
      rw [Nat.add_mul, Nat.one_mul] at h2
      omega
    · exact h
theorem lt_base (hU : U < a * B + b) (hu : u < B) : (U * B + u) / (a * B + b) < B := by
  refine (Nat.div_lt_iff_lt_mul (by omega)).2 ?_
  have h : (U + 1) * B ≤ (a * B + b) * B := Nat.mul_le_mul_right _ hU
  rw [Nat.add_mul, Nat.one_mul] at h
  rw [Nat.mul_comm B]
  omega
/-- The test says that the guess is too great: it is. -/
theorem too_great (h : At a b B U u t q r) (ht : t = (U * B + u) / (a * B + b)) (hU : U < a * B + b) (hu : u < B) (hc : B ≤ q ∨ B * r + u < q * b) : t < q := by
  rcases hc with hc | hc
  · have := lt_base hU hu; omega
  · rcases Nat.lt_or_ge t q with h' | h'
    · exact h'
    · exfalso
      have e : q * a * B + r * B = U * B := by rw [← Nat.add_mul, h.sum]
      have h1 : q * (a * B + b) ≤ U * B + u := Nat.le_trans (Nat.mul_le_mul_right _ h') (by rw [ht]; exact Nat.div_mul_le_self _ _)
      rw [expand] at h1
      rw [Nat.mul_comm B r] at hc
      omega
/-- It says that it isn't: it is right. -/
theorem right (h : At a b B U u t q r) (ht : t = (U * B + u) / (a * B + b)) (hp : 0 < a * B + b) (hc : q * b ≤ B * r + u) : q = t := by
  have e : q * a * B + r * B = U * B := by rw [← Nat.add_mul, h.sum]
  have h1 : q ≤ t := by
    rw [ht]
    refine (Nat.le_div_iff_mul_le hp).2 ?_
    rw [expand]
    rw [Nat.mul_comm B r] at hc
    omega
  have := h.le
  omega
/-- A lesser guess. -/
theorem next (h : At a b B U u t q r) (hq : t < q) : At a b B U u t (q - 1) (r + a) where
  sum := by
    have := h.sum
    obtain ⟨k, rfl⟩ : ∃ k, q = k + 1 := ⟨q - 1, by omega⟩
    rw [Nat.add_mul, Nat.one_mul] at this
    show (k + 1 - 1) * a + (r + a) = U
    rw [Nat.add_sub_cancel]
    omega
  le := by omega
/-- What is left is great: the guess is right. -/
theorem done (h : At a b B U u t q r) (ht : t = (U * B + u) / (a * B + b)) (hU : U < a * B + b) (hb : b < B) (hr : B ≤ r) : q = t := by
  refine right h ht (by omega) ?_
  have hq : q < B := by
    rcases Nat.lt_or_ge q B with h' | h'
    · exact h'
    · exfalso
      have h1 : B * a ≤ q * a := Nat.mul_le_mul_right _ h'
      have := h.sum
      rw [Nat.mul_comm B a] at h1
      omega
  have h1 : q * b ≤ B * r := Nat.mul_le_mul (by omega) (by omega)
  omega
/-- Sizes. -/
theorem small (h : At a b B U u t q r) (hU : U < a * B + b) (hb : b < B) (ha : 0 < a) : q < 2 * B := by
  rcases Nat.lt_or_ge q (2 * B) with h' | h'
  · exact h'
  · exfalso
    have h1 : 2 * B * a ≤ q * a := Nat.mul_le_mul_right _ h'
    have := h.sum
    have h2 : B * 1 ≤ B * a := Nat.mul_le_mul_left _ ha
    rw [Nat.mul_assoc, Nat.mul_comm B a] at h1
    rw [Nat.mul_comm B a] at h2
    omega
end
/-- Two digits. -/
theorem two (Y B U u1 u0 t : Nat) (hY : 0 < Y) (ht : t = (U * B + u1) / Y) : ((U * B + u1) * B + u0) / Y = t * B + ((U * B + u1 - t * Y) * B + u0) / Y ∧ U * B + u1 - t * Y < Y := by
  have h1 := Nat.div_add_mod (U * B + u1) Y
  rw [← ht] at h1
  have h2 : U * B + u1 - t * Y = (U * B + u1) % Y := by rw [Nat.mul_comm Y t] at h1; omega
  rw [h2]
  have hlt := Nat.mod_lt (U * B + u1) hY
  refine ⟨?_, hlt⟩
  have e : (U * B + u1) * B + u0 = Y * (t * B) + ((U * B + u1) % Y * B + u0) := by
    rw [← Nat.mul_assoc]
    calc (U * B + u1) * B + u0 = (Y * t + (U * B + u1) % Y) * B + u0 := by rw [h1]
      _ = _ := by rw [Nat.add_mul]; omega
  rw [e, Nat.mul_add_div hY]
/-- The words, shifted. -/
theorem shifted (hi lo y s : Nat) (hy : y * 2 ^ s < 2 ^ 64) (hlt : hi < y) (hs : s ≤ 64) (hlo : lo < 2 ^ 64) :
    hi * 2 ^ s + lo / 2 ^ (64 - s) < y * 2 ^ s ∧ (hi * 2 ^ s + lo / 2 ^ (64 - s)) * 2 ^ 64 + lo * 2 ^ s % 2 ^ 64 = (hi * 2 ^ 64 + lo) * 2 ^ s ∧ lo / 2 ^ (64 - s) < 2 ^ s ∧ hi * 2 ^ s < 2 ^ 64 := by
  have hp : 0 < 2 ^ s := Nat.two_pow_pos s
  have e64 : (2 : Nat) ^ (64 - s) * 2 ^ s = 2 ^ 64 := by rw [← Nat.pow_add, Nat.sub_add_cancel hs]
  have h3 : lo / 2 ^ (64 - s) < 2 ^ s := by
    refine (Nat.div_lt_iff_lt_mul (Nat.two_pow_pos _)).2 ?_
    rw [Nat.mul_comm, e64]; exact hlo
  have h1 : (hi + 1) * 2 ^ s ≤ y * 2 ^ s := Nat.mul_le_mul_right _ hlt
  rw [Nat.add_mul, Nat.one_mul] at h1
  refine ⟨by omega, ?_, h3, by omega⟩
  have h2 := Nat.div_add_mod lo (2 ^ (64 - s))
  have hm : lo * 2 ^ s % 2 ^ 64 = lo % 2 ^ (64 - s) * 2 ^ s := by
    rw [← e64, Nat.mul_mod_mul_right]
  rw [hm]
  generalize lo / 2 ^ (64 - s) = A at *
  generalize lo % 2 ^ (64 - s) = C at *
  have e2 : A * 2 ^ 64 = 2 ^ (64 - s) * A * 2 ^ s := by rw [← e64, Nat.mul_comm A, Nat.mul_assoc, Nat.mul_assoc, Nat.mul_comm A]
  have e3 : hi * 2 ^ s * 2 ^ 64 = hi * 2 ^ 64 * 2 ^ s := by rw [Nat.mul_assoc, Nat.mul_comm (2 ^ s), ← Nat.mul_assoc]
  rw [Nat.add_mul, e2, e3, ← h2, Nat.add_mul, Nat.add_mul]
  omega
end DivMath
