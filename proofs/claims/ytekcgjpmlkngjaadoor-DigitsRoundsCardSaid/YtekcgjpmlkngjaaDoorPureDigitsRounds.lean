/- P1.3: quotients, sums and hundredths: the program's are the document's: in plain numbers. -/
import Derived.Test.YtekcgjpmlkngjaaDoorQDigitsRoundsx2
set_option linter.unusedVariables false
set_option linter.unusedSimpArgs false
namespace Go.Proofs.YtekcgjpmlkngjaaDoor.Pure
open Go.RowKit Go.Proofs.YtekcgjpmlkngjaaDoor.QDigitsRounds Go.Proofs.YtekcgjpmlkngjaaDoor.Ext Go.Proofs.YtekcgjpmlkngjaaDoorW.PrintWords Go.Proofs.YtekcgjpmlkngjaaDoorW.PrintLast
theorem awake_ev : domesdaylaw01_awake.f = some true := by kernel_rfl
abbrev I64 (a : Int) : Prop := -9223372036854775808 ≤ a ∧ a ≤ 9223372036854775807
theorem i64_wf {a : Int} (h : (Lit.int .i64 a).wf = true) : I64 a := by simpa [Lit.wf, IntKind.min, IntKind.max, IntKind.signed, IntKind.bits] using h
/-! ### Ceil -/
theorem ceil_eq (k : Nat) (n d : Int) (hn : I64 n) (hd : I64 d) : ∃ r, digits_Ceil.f n d = some r ∧ domesdayref01_Ceil.f (k + 1) n d = some r := by
  unfold digits_Ceil.f domesdayref01_Ceil.f
  by_cases h1 : n < 1
  · refine ⟨0, by rw [if_pos h1], ?_⟩
    rw [if_pos h1]; simp [domesdayref01_Ceil.j0]
  · rw [if_neg h1, if_neg h1]
    simp only [domesdayref01_Ceil.j0, decide_eq_true_eq]
    by_cases h2 : d < 1
    · exact ⟨0, by rw [if_pos h2], by rw [if_pos h2]⟩
    · rw [if_neg h2, if_neg h2, if_neg (by omega), if_neg (by omega)]
      obtain ⟨a, rfl⟩ : ∃ a : Nat, n = (a : Int) := ⟨n.toNat, by omega⟩
      obtain ⟨b, rfl⟩ : ∃ b : Nat, d = (b : Int) := ⟨d.toNat, by omega⟩
      have e1 : wrap64 ((a : Int) - 1) = ((a - 1 : Nat) : Int) := by unfold wrap64; omega
      rw [e1, Int.tdiv_eq_ediv_of_nonneg (by omega), Int.tdiv_eq_ediv_of_nonneg (by omega), Int.tmod_eq_emod_of_nonneg (by omega), ← Int.natCast_ediv, ← Int.natCast_ediv, ← Int.natCast_emod]
      have h3 := Nat.div_add_mod a b
      have h4 := Nat.mod_lt a (show b > 0 by omega)
      have h5 : a / b ≤ a := Nat.div_le_self _ _
      have h6 : (a - 1) / b ≤ a - 1 := Nat.div_le_self _ _
      have hw : ∀ x : Nat, x ≤ 9223372036854775807 → wrap64 (x : Int) = x := fun x hx => by unfold wrap64; omega
      rw [hw _ (by omega), hw _ (by omega)]
      by_cases h7 : a % b = 0
      · rw [if_neg (by omega)]
        refine ⟨_, rfl, ?_⟩
        congr 1
        obtain ⟨q, hq⟩ : ∃ q, a / b = q + 1 := by
          rcases hz : a / b with _ | q
          · rw [hz] at h3; omega
          · exact ⟨q, rfl⟩
        have e2 : (a - 1) / b = q := by
          have : a - 1 = b * q + (b - 1) := by rw [hq, Nat.mul_add] at h3; omega
          rw [this, Nat.mul_add_div (by omega), Nat.div_eq_of_lt (by omega)]; omega
        rw [e2, hq]; unfold wrap64; omega
      · rw [if_pos (by omega)]
        refine ⟨_, rfl, ?_⟩
        congr 1
        have e2 : (a - 1) / b = a / b := by
          have : a - 1 = b * (a / b) + (a % b - 1) := by omega
          have h8 : a % b - 1 < b := by generalize a % b = r at *; omega
          rw [this, Nat.mul_add_div (by omega), Nat.div_eq_of_lt h8, Nat.add_zero]
        rw [e2]
/-! ### Add -/
def sat (x : Int) : Int := if x > 9223372036854775807 then 9223372036854775807 else if x < -9223372036854775808 then -9223372036854775808 else x
theorem sat_in (x : Int) : I64 (sat x) := by unfold sat I64; split <;> (try split) <;> omega
theorem add_f (k : Nat) (hk : 2 ≤ k) (a b : Int) (ha : I64 a) (hb : I64 b) : digits_add.f k a b = some (sat (a + b)) := by
  obtain ⟨k, rfl⟩ : ∃ m, k = m + 1 := ⟨k - 1, by omega⟩
  have hw : wrap64 (a + b) = if a + b > 9223372036854775807 then a + b - 18446744073709551616 else if a + b < -9223372036854775808 then a + b + 18446744073709551616 else a + b := by
    unfold wrap64; split <;> (try split) <;> omega
  have J : ∀ s c, digits_add.j1 k s c = some (if c = true then -9223372036854775808 else s) := fun s c => by
    obtain ⟨k, rfl⟩ : ∃ m, k = m + 1 := ⟨k - 1, by omega⟩
    simp only [digits_add.j1]; split <;> rfl
  unfold digits_add.f sat
  generalize hs : wrap64 (a + b) = s at *
  simp only [digits_add.j0, J]
  by_cases c1 : a + b > 9223372036854775807
  · rw [if_pos c1] at hw
    rw [if_pos (by omega), if_pos (by omega), if_pos (decide_eq_true (by omega)), if_pos c1]
  · rw [if_neg c1] at hw ⊢
    have e : (if a > 0 then (if b > 0 then (if decide (s < 0) = true then some (9223372036854775807 : Int) else if a < 0 then if b < 0 then some (if decide (s ≥ 0) = true then -9223372036854775808 else s) else some (if false = true then -9223372036854775808 else s) else some (if false = true then -9223372036854775808 else s)) else if false = true then some 9223372036854775807 else if a < 0 then if b < 0 then some (if decide (s ≥ 0) = true then -9223372036854775808 else s) else some (if false = true then -9223372036854775808 else s) else some (if false = true then -9223372036854775808 else s)) else if false = true then some 9223372036854775807 else if a < 0 then if b < 0 then some (if decide (s ≥ 0) = true then -9223372036854775808 else s) else some (if false = true then -9223372036854775808 else s) else some (if false = true then -9223372036854775808 else s)) = some (if a < 0 ∧ b < 0 ∧ s ≥ 0 then -9223372036854775808 else s) := by
      simp only [decide_eq_true_eq, Bool.false_eq_true, if_false]
      by_cases p : a > 0
      · rw [if_pos p, if_neg (show ¬ (a < 0) by omega), if_neg (show ¬ (a < 0 ∧ b < 0 ∧ s ≥ 0) by omega)]
        by_cases q : b > 0
        · rw [if_pos q, if_neg]; split at hw <;> omega
        · rw [if_neg q]
      · rw [if_neg p]
        by_cases q : a < 0
        · rw [if_pos q]
          by_cases r : b < 0
          · rw [if_pos r]
            by_cases t : s ≥ 0
            · rw [if_pos t, if_pos ⟨q, r, t⟩]
            · rw [if_neg t, if_neg (fun h => t h.2.2)]
          · rw [if_neg r, if_neg (fun h => r h.2.1)]
        · rw [if_neg q, if_neg (fun h => q h.1)]
    rw [e]
    by_cases c2 : a + b < -9223372036854775808
    · rw [if_pos c2] at hw ⊢
      rw [if_pos (by omega)]
    · rw [if_neg c2] at hw ⊢
      rw [if_neg (by omega), hw]
theorem rd_in (l : List Int) (hl : ∀ x ∈ l, I64 x) (i : Nat) (hi : i < l.length) : I64 (rd l (i : Int)) := by
  have : rd l (i : Int) ∈ l := by
    unfold rd
    rw [Int.toNat_natCast, List.getD_eq_getElem?_getD, List.getElem?_eq_getElem hi]
    exact List.getElem_mem hi
  exact hl _ this
theorem adds (l : List Int) (hl : ∀ x ∈ l, I64 x) (hn : l.length ≤ 100) (d : Nat) : ∀ (k k' i : Nat) (s : Int), I64 s → i + d = l.length → d + 3 < k → 2 * d + 3 < k' →
    ∃ r, digits_Add.l0 k s l (l.length : Int) (i : Int) = some r ∧ domesdayref01_Add.l0 k' l s (i : Int) = some r := by
  induction d with
  | zero =>
    intro k k' i s hs hi hk hk'
    obtain ⟨k, rfl⟩ : ∃ m, k = m + 1 := ⟨k - 1, by omega⟩
    obtain ⟨k', rfl⟩ : ∃ m, k' = m + 1 := ⟨k' - 1, by omega⟩
    refine ⟨s, ?_, ?_⟩
    · simp only [digits_Add.l0]; rw [if_neg (by omega)]
    · simp only [domesdayref01_Add.l0]; rw [if_neg (by omega)]
  | succ d ih =>
    intro k k' i s hs hi hk hk'
    obtain ⟨k, rfl⟩ : ∃ m, k = m + 1 := ⟨k - 1, by omega⟩
    obtain ⟨k', rfl⟩ : ∃ m, k' = m + 1 := ⟨k' - 1, by omega⟩
    have hx := rd_in l hl i (by omega)
    have hw : wrap64 ((i : Int) + 1) = ((i + 1 : Nat) : Int) := by unfold wrap64; omega
    obtain ⟨r, h1, h2⟩ := ih k (k' - 1) (i + 1) (sat (s + rd l (i : Int))) (sat_in _) (by omega) (by omega) (by omega)
    refine ⟨r, ?_, ?_⟩
    · simp only [digits_Add.l0]
      rw [if_pos (by omega), if_pos (by omega), if_pos (by omega), add_f k (by omega) s _ hs hx]
      simp only [Option.bind_some]
      rw [hw]; exact h1
    · simp only [domesdayref01_Add.l0]
      rw [if_pos (by omega), if_pos (by omega)]
      obtain ⟨k', rfl⟩ : ∃ m, k' = m + 1 := ⟨k' - 1, by omega⟩
      rw [Nat.add_sub_cancel] at h2
      simp only [domesdayref01_Add.j1]
      generalize rd l (i : Int) = x at *
      have hc : wrap64 (9223372036854775807 - x) = if x < 0 then 9223372036854775807 - x - 18446744073709551616 else 9223372036854775807 - x := by unfold wrap64; split <;> omega
      have hd : wrap64 (-9223372036854775808 - x) = if x > 0 then -9223372036854775808 - x + 18446744073709551616 else -9223372036854775808 - x := by unfold wrap64; split <;> omega
      rw [hw, hc, hd, if_pos (show (0 : Int) ≤ (i : Int) by omega), if_pos (show (i : Int) < (l.length : Int) by omega)]
      rw [← h2]
      unfold sat
      simp only [decide_eq_true_eq, Bool.false_eq_true, if_false]
      by_cases p : x > 0
      · rw [if_pos p, if_neg (show ¬ x < 0 by omega), if_neg (show ¬ x < 0 by omega)]
        by_cases q : s > 9223372036854775807 - x
        · rw [if_pos q, if_pos (by omega)]
        · rw [if_neg q, if_neg (by omega), if_neg (by omega)]
          rw [show wrap64 (s + x) = s + x by unfold wrap64; omega]
      · rw [if_neg p, if_neg p]
        by_cases q : x < 0
        · rw [if_pos q]
          by_cases r : s < -9223372036854775808 - x
          · rw [if_pos r, if_neg (by omega), if_pos (by omega)]
          · rw [if_neg r, if_neg (by omega), if_neg (by omega)]
            rw [show wrap64 (s + x) = s + x by unfold wrap64; omega]
        · rw [if_neg q, if_neg (by omega), if_neg (by omega)]
          rw [show wrap64 (s + x) = s + x by unfold wrap64; omega]
/-! ### Percent -/
theorem wrap_nat {x : Nat} (h : x ≤ 18446744073709551615) : IntKind.u64.wrap (x : Int) = x := IntWalk.u64_in _ ⟨by omega, by omega⟩
section
variable (p w : Nat) (hp : p ≤ 9223372036854775807) (hw : 1 ≤ w) (hw2 : w ≤ 9223372036854775807)
include hp hw hw2
theorem perc_l0 (d : Nat) : ∀ (k i q rest : Nat), i + d = 100 → 2 * d + 2 < k → q * w + rest = i * p → rest < w → q ≤ 9223372036854775807 →
    domesdayref01_Percent.l0 k (p : Int) (q : Int) (rest : Int) (w : Int) (i : Int) = some (perc p w : Int) := by
  induction d with
  | zero =>
    intro k i q rest hi hk hq hr hm
    obtain ⟨k, rfl⟩ : ∃ m, k = m + 1 := ⟨k - 1, by omega⟩
    obtain rfl : i = 100 := by omega
    simp only [domesdayref01_Percent.l0]
    rw [if_neg (by omega)]
    have e : (p * 100 + (w - 1)) / w = if rest > 0 then q + 1 else q := by
      have : p * 100 + (w - 1) = w * q + (rest + (w - 1)) := by rw [Nat.mul_comm w q]; omega
      rw [this, Nat.mul_add_div (by omega)]
      split
      · rw [show rest + (w - 1) = w * 1 + (rest - 1) by omega, Nat.mul_add_div (by omega), Nat.div_eq_of_lt (by omega)]
      · rw [Nat.div_eq_of_lt (by omega)]; omega
    have e1 : IntKind.u64.wrap ((q : Int) + 1) = ((q + 1 : Nat) : Int) := by rw [IntWalk.u64_in _ ⟨by omega, by omega⟩]; omega
    have hmn : ∀ x : Nat, wrap64 (mn (x : Int) 9223372036854775807) = ((min x 9223372036854775807 : Nat) : Int) := fun x => by unfold mn wrap64; split <;> omega
    unfold perc
    rw [e, e1, hmn, hmn]
    by_cases h : rest > 0
    · rw [if_pos (by omega), if_pos h]
    · rw [if_neg (by omega), if_neg h]
  | succ d ih =>
    intro k i q rest hi hk hq hr hm
    obtain ⟨k, rfl⟩ : ∃ m, k = m + 1 := ⟨k - 1, by omega⟩
    simp only [domesdayref01_Percent.l0]
    have h3 := Nat.div_add_mod p w
    have h4 := Nat.mod_lt p (show w > 0 by omega)
    have h5 : p / w ≤ p := Nat.div_le_self _ _
    have e0 : IntKind.u64.wrap (p : Int) = p := IntWalk.u64_in _ ⟨by omega, by omega⟩
    have e1 : IntKind.u64.wrap (Int.tdiv (p : Int) w) = ((p / w : Nat) : Int) := by
      rw [Int.tdiv_eq_ediv_of_nonneg (by omega), ← Int.natCast_ediv]; exact wrap_nat (Nat.le_trans h5 (by omega))
    have e2 : Int.tmod (p : Int) w = ((p % w : Nat) : Int) := by rw [Int.tmod_eq_emod_of_nonneg (by omega), ← Int.natCast_emod]
    have e3 : w * (p / w) = p / w * w := Nat.mul_comm _ _
    rw [e3] at h3
    rw [if_pos (by omega), if_neg (by omega), e0, e1, e2]
    have HW1 : Aside0 (wrap64 ((i : Int) + 1) = ((i + 1 : Nat) : Int)) := Aside0.mk (by unfold wrap64; omega)
    clear e0 e1 e2 e3
    have hip : (i + 1) * p = i * p + p := by rw [Nat.add_mul, Nat.one_mul]
    -- what a round leaves
    have J : ∀ q2 r2 : Nat, q2 * w + r2 = (i + 1) * p → r2 < w → domesdayref01_Percent.j2 k (p : Int) (q2 : Int) (r2 : Int) (w : Int) (i : Int) = some (perc p w : Int) := by
      intro q2 r2 hq2 hr2
      obtain ⟨k, rfl⟩ : ∃ m, k = m + 1 := ⟨k - 1, by omega⟩
      simp only [domesdayref01_Percent.j2]
      by_cases hb : (q2 : Int) > 9223372036854775807
      · rw [if_pos hb]
        congr 1
        have : 9223372036854775807 ≤ (p * 100 + (w - 1)) / w := by
          refine (Nat.le_div_iff_mul_le (by omega)).2 ?_
          have h6 : 9223372036854775807 * w ≤ q2 * w := Nat.mul_le_mul_right _ (by omega)
          have h7 : (i + 1) * p ≤ 100 * p := Nat.mul_le_mul_right _ (by omega)
          omega
        unfold perc
        rw [Nat.min_eq_right this]; rfl
      · rw [if_neg hb, HW1.out]
        exact ih k (i + 1) q2 r2 (by omega) (by omega) hq2 hr2 (by omega)
    generalize p % w = b at *
    generalize p / w = a at *
    have e4 : IntKind.u64.wrap ((rest : Int) + b) = ((rest + b : Nat) : Int) := by rw [IntWalk.u64_in _ ⟨by omega, by omega⟩]; omega
    have e5 : IntKind.u64.wrap ((q : Int) + a) = ((q + a : Nat) : Int) := by rw [IntWalk.u64_in _ ⟨by omega, by omega⟩]; omega
    rw [e4, e5]
    have hqa : (q + a) * w = q * w + a * w := Nat.add_mul _ _ _
    have hqb : (q + a + 1) * w = q * w + a * w + w := by rw [Nat.add_mul, Nat.add_mul, Nat.one_mul]
    by_cases hc : w ≤ rest + b
    · have e6 : IntKind.u64.wrap (((q + a : Nat) : Int) + 1) = ((q + a + 1 : Nat) : Int) := by rw [IntWalk.u64_in _ ⟨by omega, by omega⟩]; omega
      have e7 : IntKind.u64.wrap (((rest + b : Nat) : Int) - w) = ((rest + b - w : Nat) : Int) := by rw [IntWalk.u64_in _ ⟨by omega, by omega⟩]; omega
      rw [if_pos (by omega), e6, e7]
      exact J _ _ (by omega) (by omega)
    · rw [if_neg (by omega)]
      exact J _ _ (by omega) (by omega)
end
theorem perc_eq (k : Nat) (hk : 300 ≤ k) (a b : Int) (ha : I64 a) (hb : I64 b) : ∃ r, digits_Percent.f a b = some r ∧ domesdayref01_Percent.f k a b = some r := by
  obtain ⟨k, rfl⟩ : ∃ m, k = m + 1 := ⟨k - 1, by omega⟩
  unfold digits_Percent.f domesdayref01_Percent.f
  simp only [domesdayref01_Percent.j0, decide_eq_true_eq, if_true]
  by_cases h1 : a < 1
  · exact ⟨0, by rw [if_pos (.inl h1)], by rw [if_pos h1]⟩
  · rw [if_neg h1]
    by_cases h2 : b < 1
    · exact ⟨0, by rw [if_pos (.inr h2)], by rw [if_pos h2]⟩
    · rw [if_neg h2, if_neg (by omega), if_pos ⟨ha.2, hb.2⟩]
      refine ⟨_, rfl, ?_⟩
      obtain ⟨p, rfl⟩ : ∃ p : Nat, a = p := ⟨a.toNat, by omega⟩
      obtain ⟨w, rfl⟩ : ∃ w : Nat, b = w := ⟨b.toNat, by omega⟩
      have e0 : IntKind.u64.wrap (w : Int) = w := IntWalk.u64_in _ ⟨by omega, by omega⟩
      rw [e0]
      exact perc_l0 p w (by omega) (by omega) (by omega) 100 k 0 0 0 (by omega) (by omega) (by omega) (by omega) (by omega)
theorem DigitsRounds (a0 a1 : Int) (l2 : List Int) (h0 : (Lit.int .i64 a0).wf = true) (h1 : (Lit.int .i64 a1).wf = true) (h2 : ∀ x ∈ l2, (Lit.int .i64 x).wf = true) : ∃ k, domesdaylaw01_DigitsRounds.f k a0 a1 l2 = some true := by
  refine ⟨1001, ?_⟩
  unfold domesdaylaw01_DigitsRounds.f
  rw [awake_ev]
  simp only [Option.bind_some, if_true]
  obtain ⟨k, hk⟩ : ∃ k, k = 1000 := ⟨_, rfl⟩
  rw [show (1001 : Nat) = k + 1 by omega]
  simp only [domesdaylaw01_DigitsRounds.j0, decide_eq_true_eq]
  split
  · rw [awake_ev]; rfl
  · rename_i hs
    obtain ⟨c, hc1, hc2⟩ := ceil_eq (k - 1) a0 a1 (i64_wf h0) (i64_wf h1)
    rw [show k - 1 + 1 = k by omega] at hc2
    obtain ⟨s, hs1, hs2⟩ := adds l2 (fun x hx => i64_wf (h2 x hx)) (by omega) l2.length k k 0 0 ⟨by omega, by omega⟩ (by omega) (by omega) (by omega)
    obtain ⟨p, hp1, hp2⟩ := perc_eq k (by omega) a0 a1 (i64_wf h0) (i64_wf h1)
    rw [hc1, hc2]
    simp only [Option.bind_some, if_true]
    rw [show digits_Add.f k l2 = _ from hs1, show domesdayref01_Add.f k l2 = _ from hs2]
    simp only [Option.bind_some, if_true]
    rw [hp1, hp2]
    simp
end Go.Proofs.YtekcgjpmlkngjaaDoor.Pure
