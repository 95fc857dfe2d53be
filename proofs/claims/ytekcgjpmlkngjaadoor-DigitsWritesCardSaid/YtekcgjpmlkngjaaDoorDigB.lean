/- Digits, as lists: what is read is what is written. -/
import Derived.Lib.ItoaNum
import Derived.Lib.ParseIntBTie
namespace DigB
open Go.Lib
/-- A digit's byte. -/
def dg (n : Nat) : UInt8 := (⟨#[48, 49, 50, 51, 52, 53, 54, 55, 56, 57, 97, 98, 99, 100, 101, 102]⟩ : ByteArray).get! n
/-- The digits of a number in a base; f: so many at most. -/
def digs (b : Nat) : Nat → Nat → List UInt8
  | 0, _ => []
  | f + 1, n => if n < b then [dg n] else digs b f (n / b) ++ [dg (n % b)]
theorem dg_dec : ∀ n : Fin 10, dg n.val = UInt8.ofNat (48 + n.val) := by decide +kernel
theorem div_lt_pow {b f n : Nat} (hb : 2 ≤ b) (h : n < b ^ (f + 1)) : n / b < b ^ f := by
  rw [Nat.pow_succ] at h
  exact (Nat.div_lt_iff_lt_mul (by omega)).2 h
theorem digs_dec : ∀ (f n : Nat), 1 ≤ f → n < 10 ^ f → digs 10 f n = decDigits n := by
  intro f
  induction f with
  | zero => intro n h; omega
  | succ f ih =>
    intro n _ hn
    rw [decDigits]
    simp only [digs]
    by_cases h : n < 10
    · rw [if_pos h, dif_pos h, dg_dec ⟨n, h⟩]
    · rw [if_neg h, dif_neg h, dg_dec ⟨n % 10, by omega⟩, ih (n / 10) (by rcases Nat.eq_zero_or_pos f with rfl | h'; · simp at hn; omega
                                                                          · exact h') (div_lt_pow (by omega) hn)]
abbrev M64 : Nat := 2 ^ 64 - 1
theorem parse_snoc : ∀ (l : List UInt8) (acc v : Nat) (c : UInt8), parseUintM M64 acc l = .ok v → 48 ≤ c.toNat → c.toNat ≤ 57 → v * 10 + (c.toNat - 48) ≤ M64 → parseUintM M64 acc (l ++ [c]) = .ok (v * 10 + (c.toNat - 48)) := by
  intro l
  induction l with
  | nil =>
    intro acc v c h h1 h2 h3
    simp only [parseUintM] at h
    cases h
    simp only [M64] at h3 ⊢
    simp only [List.nil_append, parseUintM]
    rw [if_pos ⟨h1, h2⟩, if_neg (by omega), if_neg (by omega)]
  | cons a l ih =>
    intro acc v c h h1 h2 h3
    simp only [parseUintM] at h
    simp only [List.cons_append, parseUintM]
    split at h
    · rename_i g1
      split at h
      · cases h
      · rename_i g2
        split at h
        · cases h
        · rename_i g3
          rw [if_pos g1, if_neg g2, if_neg g3]
          exact ih _ _ _ h h1 h2 h3
    · cases h
theorem byte_dec {d : Nat} (h : d < 10) : (UInt8.ofNat (48 + d)).toNat = 48 + d := by
  rw [UInt8.toNat_ofNat']; omega
theorem parse_dec : ∀ (n u : Nat), u < n → u ≤ M64 → parseUintM M64 0 (decDigits u) = .ok u := by
  intro n
  induction n with
  | zero => intro u h; omega
  | succ n ih =>
    intro u h hu
    rw [decDigits]
    by_cases h10 : u < 10
    · rw [dif_pos h10]
      have := parse_snoc [] 0 0 (UInt8.ofNat (48 + u)) rfl (by rw [byte_dec h10]; omega) (by rw [byte_dec h10]; omega) (by rw [byte_dec h10]; omega)
      rw [byte_dec h10] at this
      simpa using this
    · rw [dif_neg h10]
      have hm : u % 10 < 10 := by omega
      have := parse_snoc (decDigits (u / 10)) 0 (u / 10) (UInt8.ofNat (48 + u % 10)) (ih _ (by omega) (by omega)) (by rw [byte_dec hm]; omega) (by rw [byte_dec hm]; omega) (by rw [byte_dec hm]; omega)
      rw [byte_dec hm] at this
      rw [this]; congr 1; omega
theorem decDigits_ne (u : Nat) : ∃ c r, decDigits u = c :: r ∧ 48 ≤ c.toNat ∧ c.toNat ≤ 57 := by
  have key : ∀ n u, u < n → ∃ c r, decDigits u = c :: r ∧ 48 ≤ c.toNat ∧ c.toNat ≤ 57 := by
    intro n
    induction n with
    | zero => intro u h; omega
    | succ n ih =>
      intro u h
      rw [decDigits]
      by_cases h10 : u < 10
      · rw [dif_pos h10]; exact ⟨_, [], rfl, by rw [byte_dec h10]; omega, by rw [byte_dec h10]; omega⟩
      · rw [dif_neg h10]
        obtain ⟨c, r, hc, h1, h2⟩ := ih (u / 10) (by omega)
        exact ⟨c, r ++ [_], by rw [hc]; rfl, h1, h2⟩
  exact key (u + 1) u (by omega)
/-- What is written is read. -/
theorem parse_itoa (v : Int) (h1 : -9223372036854775808 ≤ v) (h2 : v ≤ 9223372036854775807) : parseIntB 64 (itoa v) = .ok v := by
  have e63 : (2 : Nat) ^ (64 - 1) = 9223372036854775808 := by decide
  have eM : M64 = 18446744073709551615 := by decide
  unfold itoa
  by_cases hv : v < 0
  · rw [if_pos hv]
    have hp := parse_dec (v.natAbs + 1) v.natAbs (by omega) (by omega)
    obtain ⟨c, r, hc, _⟩ := decDigits_ne v.natAbs
    have hU : parseUintB 64 (decDigits v.natAbs) = .ok v.natAbs := by unfold parseUintB; rw [if_neg (by rw [hc]; simp)]; exact hp
    have e45 : (45 : UInt8).toNat = 45 := rfl
    simp only [parseIntB, e45, if_true, or_true]
    rw [hU]
    simp only [e63, not_true, false_and, if_false, true_and]
    rw [if_neg (by omega)]
    congr 1
    first | omega | (simp; omega)
  · rw [if_neg hv]
    have hp := parse_dec (v.toNat + 1) v.toNat (by omega) (by omega)
    obtain ⟨c, r, hc, g1, g2⟩ := decDigits_ne v.toNat
    rw [hc] at hp ⊢
    have hU : parseUintB 64 (c :: r) = .ok v.toNat := by unfold parseUintB; rw [if_neg (by simp)]; exact hp
    simp only [parseIntB]
    rw [if_neg (show ¬ (c.toNat = 43 ∨ c.toNat = 45) by omega), hU]
    simp only [e63]
    have n45 : ¬ c.toNat = 45 := by omega
    simp only [n45, not_false_iff, true_and, false_and, if_false]
    rw [if_neg (by omega)]
    congr 1; omega
/-! ### what is read, of plain digits -/
def AllDig (l : List UInt8) : Prop := ∀ c ∈ l, 48 ≤ c.toNat ∧ c.toNat ≤ 57
def val (acc : Nat) (l : List UInt8) : Nat := l.foldl (fun a c => a * 10 + (c.toNat - 48)) acc
theorem parse_plain : ∀ (l : List UInt8) (acc j : Nat), AllDig l → acc < 10 ^ j → j + l.length ≤ 18 → parseUintM M64 acc l = .ok (val acc l) ∧ val acc l < 10 ^ (j + l.length) := by
  intro l
  induction l with
  | nil => intro acc j _ h _; exact ⟨rfl, h⟩
  | cons c l ih =>
    intro acc j hd ha hl
    have hc := hd c (List.mem_cons_self ..)
    have hl' : j + (l.length + 1) ≤ 18 := hl
    have hp : 10 ^ j ≤ 10 ^ 17 := Nat.pow_le_pow_right (by decide) (by omega)
    have e17 : (10 : Nat) ^ 17 = 100000000000000000 := by decide
    have eM : M64 = 18446744073709551615 := by decide
    have hs : 10 ^ (j + 1) = 10 ^ j * 10 := Nat.pow_succ ..
    obtain ⟨h1, h2⟩ := ih (acc * 10 + (c.toNat - 48)) (j + 1) (fun x hx => hd x (List.mem_cons_of_mem _ hx)) (by omega) (by omega)
    refine ⟨?_, ?_⟩
    · simp only [parseUintM]
      rw [if_pos hc, if_neg (by omega), if_neg (by omega)]
      exact h1
    · rw [List.length_cons, show j + (l.length + 1) = j + 1 + l.length by omega]; exact h2
theorem val_snoc (acc : Nat) (l : List UInt8) (c : UInt8) : val acc (l ++ [c]) = val acc l * 10 + (c.toNat - 48) := by unfold val; rw [List.foldl_append]; rfl
theorem val_pos : ∀ (l : List UInt8) (acc : Nat), 1 ≤ acc → 1 ≤ val acc l := by
  intro l
  induction l with
  | nil => intro acc h; exact h
  | cons c l ih => intro acc h; exact ih _ (Nat.le_trans (show 1 ≤ acc * 10 by omega) (Nat.le_add_right _ _))
theorem byte_of {c : UInt8} (h1 : 48 ≤ c.toNat) (h2 : c.toNat ≤ 57) : UInt8.ofNat (48 + (c.toNat - 48)) = c := by
  rw [show 48 + (c.toNat - 48) = c.toNat by omega]; exact UInt8.ofNat_toNat
theorem dec_val : ∀ (n : Nat) (c : UInt8) (r : List UInt8), r.length = n → 49 ≤ c.toNat → AllDig (c :: r) → decDigits (val 0 (c :: r)) = c :: r := by
  intro n
  induction n with
  | zero =>
    intro c r hr h1 hd
    obtain rfl := List.eq_nil_of_length_eq_zero hr
    have hc := hd c (List.mem_cons_self ..)
    have e : val 0 [c] = c.toNat - 48 := by simp [val]
    rw [e, decDigits, dif_pos (by omega), byte_of hc.1 hc.2]
  | succ n ih =>
    intro c r hr h1 hd
    rcases List.eq_nil_or_concat r with rfl | ⟨r', x, rfl⟩
    · simp at hr
    · rw [List.concat_eq_append] at hr hd ⊢
      have hx := hd x (by simp)
      rw [show c :: (r' ++ [x]) = (c :: r') ++ [x] from rfl] at hd ⊢
      have hp : 1 ≤ val 0 (c :: r') := val_pos r' _ (show 1 ≤ 0 * 10 + (c.toNat - 48) by omega)
      rw [val_snoc, decDigits, dif_neg (by omega), show (val 0 (c :: r') * 10 + (x.toNat - 48)) / 10 = val 0 (c :: r') by omega, show (val 0 (c :: r') * 10 + (x.toNat - 48)) % 10 = x.toNat - 48 by omega, byte_of hx.1 hx.2,
        ih c r' (by simpa using hr) h1 (fun y hy => hd y (List.mem_append_left _ hy))]
/-- Plain digits are read, and written as they were. -/
theorem plain_read (c : UInt8) (r : List UInt8) (h1 : 49 ≤ c.toNat) (hd : AllDig (c :: r)) (hl : r.length < 18) : ∃ v : Int, parseIntB 64 (c :: r) = .ok v ∧ itoa v = c :: r := by
  have hc := hd c (List.mem_cons_self ..)
  obtain ⟨hp, hb⟩ := parse_plain (c :: r) 0 0 hd (by decide) (by simp; omega)
  have e63 : (2 : Nat) ^ (64 - 1) = 9223372036854775808 := by decide
  have hb18 : val 0 (c :: r) < 1000000000000000000 := by
    refine Nat.lt_of_lt_of_le hb ?_
    exact Nat.le_trans (Nat.pow_le_pow_right (by decide) (show 0 + (c :: r).length ≤ 18 by simp; omega)) (by decide)
  have hU : parseUintB 64 (c :: r) = .ok (val 0 (c :: r)) := by unfold parseUintB; rw [if_neg (by simp)]; exact hp
  refine ⟨(val 0 (c :: r) : Int), ?_, ?_⟩
  · simp only [parseIntB]
    rw [if_neg (show ¬ (c.toNat = 43 ∨ c.toNat = 45) by omega), hU]
    simp only [e63]
    rw [if_neg (by omega), if_neg (by omega), if_neg (by omega)]
  · unfold itoa
    rw [if_neg (by omega), Int.toNat_natCast]
    exact dec_val r.length c r rfl h1 hd
end DigB
