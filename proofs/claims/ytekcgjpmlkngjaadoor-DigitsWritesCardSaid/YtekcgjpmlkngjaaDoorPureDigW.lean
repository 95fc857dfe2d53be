/- The document's digits: in plain numbers and lists. -/
import Derived.Test.YtekcgjpmlkngjaaDoorQDigitsWritesx1
import Derived.Test.YtekcgjpmlkngjaaDoorDigB
import Derived.IntWalk
set_option linter.unusedVariables false
set_option linter.unusedSimpArgs false
namespace Go.Proofs.YtekcgjpmlkngjaaDoor.Pure
open Go.RowKit Go.Proofs.YtekcgjpmlkngjaaDoor.QDigitsWrites Go.Proofs.YtekcgjpmlkngjaaDoor.Ext Go.Proofs.YtekcgjpmlkngjaaDoorW.PrintWords Go.Proofs.YtekcgjpmlkngjaaDoorW.PrintLast
theorem awake_ev : domesdaylaw01_awake.f = some true := by kernel_rfl
abbrev I64 (a : Int) : Prop := -9223372036854775808 ≤ a ∧ a ≤ 9223372036854775807
theorem i64_wf {a : Int} (h : (Lit.int .i64 a).wf = true) : I64 a := by simpa [Lit.wf, IntKind.min, IntKind.max, IntKind.signed, IntKind.bits] using h
theorem wrap_nat {x : Nat} (h : x ≤ 18446744073709551615) : IntKind.u64.wrap (x : Int) = x := IntWalk.u64_in _ ⟨by omega, by omega⟩
def B (l : List UInt8) : ByteArray := ⟨l.toArray⟩
theorem B_size (l : List UInt8) : (B l).size = l.length := by simp [B, ByteArray.size]
theorem dg_ex : ∀ r : Fin 16, (⟨#[48, 49, 50, 51, 52, 53, 54, 55, 56, 57, 97, 98, 99, 100, 101, 102]⟩ : ByteArray).extract r.val (r.val + 1) = B [DigB.dg r.val] := by decide +kernel
theorem dg_at {r : Nat} (h : r < 16) : (⟨#[48, 49, 50, 51, 52, 53, 54, 55, 56, 57, 97, 98, 99, 100, 101, 102]⟩ : ByteArray).extract r (r + 1) = B [DigB.dg r] := dg_ex ⟨r, h⟩
theorem wrap_succ {r : Nat} (h : r < 16) : IntKind.u64.wrap ((r : Int) + 1) = ((r + 1 : Nat) : Int) := by rw [IntWalk.u64_in _ ⟨by omega, by omega⟩]; omega
theorem B_cons (c : UInt8) (l : List UInt8) : B [c] ++ B l = B (c :: l) := by
  unfold B
  apply ByteArray.ext
  apply Array.ext'
  simp [ByteArray.data_append]
theorem ref_l0 (b : Nat) (hb : 2 ≤ b) (hb2 : b ≤ 16) : ∀ (f k n i : Nat) (acc : List UInt8), n < b ^ f → 1 ≤ f → n ≤ 18446744073709551615 → i + f ≤ 70 → 2 * f + 4 < k → acc.length ≤ i → (i = 0 ∨ 0 < n) →
    domesdayref01_Digits.l0 k (n : Int) (b : Int) (B acc) (i : Int) = some (B (DigB.digs b f n ++ acc)) := by
  intro f
  induction f with
  | zero => intro k n i acc h h1; omega
  | succ f ih =>
    intro k n i acc hn _ hm hi hk ha h0
    obtain ⟨k, rfl⟩ : ∃ m, k = m + 1 := ⟨k - 1, by omega⟩
    simp only [domesdayref01_Digits.l0]
    have hr : n % b < b := Nat.mod_lt _ (by omega)
    have hd := Nat.div_add_mod n b
    have hdl : n / b ≤ n := Nat.div_le_self _ _
    have e1 : Int.tmod (n : Int) b = ((n % b : Nat) : Int) := by rw [Int.tmod_eq_emod_of_nonneg (by omega), ← Int.natCast_emod]
    have e2 : IntKind.u64.wrap (Int.tdiv (n : Int) b) = ((n / b : Nat) : Int) := by
      rw [Int.tdiv_eq_ediv_of_nonneg (by omega), ← Int.natCast_ediv]; exact wrap_nat (Nat.le_trans hdl hm)
    -- one digit
    have J : domesdayref01_Digits.j1 k (n : Int) (b : Int) (B acc) (i : Int) true = domesdayref01_Digits.l0 (k - 1) ((n / b : Nat) : Int) (b : Int) (B (DigB.dg (n % b) :: acc)) ((i + 1 : Nat) : Int) := by
      obtain ⟨k, rfl⟩ : ∃ m, k = m + 1 := ⟨k - 1, by omega⟩
      simp only [domesdayref01_Digits.j1, if_true, Nat.add_sub_cancel]
      have hw : wrap64 ((i : Int) + 1) = ((i + 1 : Nat) : Int) := by unfold wrap64; omega
      have hex := dg_at (show n % b < 16 by omega)
      have e3 := wrap_succ (show n % b < 16 by omega)
      rw [e1, e2, hw]
      rw [e3, Int.toNat_natCast, Int.toNat_natCast, hex, B_cons]
      clear e1 e2 e3 hw hd hex
      rw [if_neg (by omega), if_pos (by omega), if_pos (by omega), if_pos (by omega), if_pos (by rw [B_size, B_size]; simp; omega)]
    have D : (if (i : Int) < 70 then (if (i : Int) = 0 then domesdayref01_Digits.j1 k (n : Int) (b : Int) (B acc) (i : Int) true else domesdayref01_Digits.j1 k (n : Int) (b : Int) (B acc) (i : Int) (decide ((n : Int) > 0))) else domesdayref01_Digits.j1 k (n : Int) (b : Int) (B acc) (i : Int) false) = domesdayref01_Digits.j1 k (n : Int) (b : Int) (B acc) (i : Int) true := by
      rw [if_pos (by omega)]
      split
      · rfl
      · rw [decide_eq_true (by omega)]
    rw [D, J]
    clear D J e1 e2
    simp only [DigB.digs]
    by_cases hlt : n < b
    · rw [if_pos hlt, Nat.div_eq_of_lt hlt, Nat.mod_eq_of_lt hlt]
      obtain ⟨k2, hk2⟩ : ∃ m, k - 1 = m + 2 := ⟨k - 3, by omega⟩
      rw [hk2]
      have E : ∀ c, domesdayref01_Digits.j1 (k2 + 1) ((0 : Nat) : Int) (b : Int) (B (DigB.dg n :: acc)) ((i + 1 : Nat) : Int) c = if c = true then domesdayref01_Digits.j1 (k2 + 1) ((0 : Nat) : Int) (b : Int) (B (DigB.dg n :: acc)) ((i + 1 : Nat) : Int) true else some (B (DigB.dg n :: acc)) := fun c => by
        cases c
        · simp only [domesdayref01_Digits.j1, Bool.false_eq_true, if_false]
        · rfl
      rw [domesdayref01_Digits.l0]
      split
      · rw [if_neg (by omega), decide_eq_false (by omega), E]; simp
      · rw [E]; simp
    · rw [if_neg hlt]
      have hpos : 0 < n / b := Nat.div_pos (by omega) (by omega)
      have hlt2 := DigB.div_lt_pow hb hn
      have hf : 1 ≤ f := by
        rcases Nat.eq_zero_or_pos f with rfl | h'
        · simp at hlt2; omega
        · exact h'
      rw [ih (k - 1) (n / b) (i + 1) (DigB.dg (n % b) :: acc) hlt2 hf (by omega) (by omega) (by omega) (by simp; omega) (.inr hpos)]
      simp
theorem digits_f (b f k n : Nat) (hb : 2 ≤ b) (hb2 : b ≤ 16) (hn : n < b ^ f) (hf : 1 ≤ f) (hf2 : f ≤ 70) (hm : n ≤ 18446744073709551615) (hk : 200 ≤ k) : domesdayref01_Digits.f k (n : Int) (b : Int) = some (B (DigB.digs b f n)) := by
  have := ref_l0 b hb hb2 f k n 0 [] hn hf hm (by omega) (by omega) (Nat.le_refl _) (.inl rfl)
  rw [List.append_nil] at this
  exact this
theorem dec_len : ∀ (f n : Nat), (DigB.digs 10 f n).length ≤ f := by
  intro f
  induction f with
  | zero => intro n; simp [DigB.digs]
  | succ f ih =>
    intro n
    simp only [DigB.digs]
    split
    · simp
    · have := ih (n / 10); simp; omega
/-- The document's Dec. -/
theorem dec_f (k : Nat) (hk : 200 ≤ k) (v : Int) (hv : I64 v) : domesdayref01_Dec.f k v = some (itoaB v) := by
  have e20 : (10 : Nat) ^ 20 = 100000000000000000000 := by decide
  unfold domesdayref01_Dec.f
  by_cases h : v ≥ 0
  · rw [if_pos h]
    obtain ⟨n, rfl⟩ : ∃ n : Nat, v = n := ⟨v.toNat, by omega⟩
    rw [wrap_nat (by omega), show (10 : Int) = ((10 : Nat) : Int) from rfl, digits_f 10 20 k n (by omega) (by omega) (by omega) (by omega) (by omega) (by omega) hk]
    simp only [Option.bind_some]
    congr 1
    unfold itoaB Lib.itoa B
    rw [if_neg (by omega), Int.toNat_natCast, DigB.digs_dec 20 n (by omega) (by omega)]
  · rw [if_neg h]
    have e1 : wrap64 (v + 1) = v + 1 := by unfold wrap64; omega
    have e2 : wrap64 (-(v + 1)) = -(v + 1) := by unfold wrap64; omega
    have e3 : IntKind.u64.wrap (-(v + 1)) = -(v + 1) := IntWalk.u64_in _ ⟨by omega, by omega⟩
    have e4 : IntKind.u64.wrap (-(v + 1) + 1) = (v.natAbs : Int) := by rw [IntWalk.u64_in _ ⟨by omega, by omega⟩]; omega
    rw [e1, e2, e3, e4, show (10 : Int) = ((10 : Nat) : Int) from rfl, digits_f 10 20 k v.natAbs (by omega) (by omega) (by omega) (by omega) (by omega) (by omega) hk]
    simp only [Option.bind_some]
    rw [if_pos (by rw [B_size]; have := dec_len 20 v.natAbs; omega)]
    congr 1
    rw [show (⟨#[45]⟩ : ByteArray) = B [45] from rfl, B_cons, DigB.digs_dec 20 v.natAbs (by omega) (by omega)]
    unfold itoaB Lib.itoa B
    rw [if_pos (by omega)]
end Go.Proofs.YtekcgjpmlkngjaaDoor.Pure
