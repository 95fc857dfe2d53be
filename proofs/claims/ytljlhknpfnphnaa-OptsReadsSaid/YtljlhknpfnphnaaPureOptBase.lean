/- The plain laws of opts: what they share. awake, Few, Same. -/
import Derived.Test.YtljlhknpfnphnaaQA
import Derived.Test.YtljlhknpfnphnaaQB
namespace Go.Proofs.Ytljlhknpfnphnaa.Pure
open Go.RowKit Go.Proofs.Ytljlhknpfnphnaa.QOpts Go.Proofs.YtljlhknpfnphnaaW.PrintWords Go.Proofs.YtljlhknpfnphnaaW.PrintLast Go.Proofs.YtljlhknpfnphnaaW.PrintMore
set_option linter.unusedVariables false
set_option linter.unusedSimpArgs false

theorem wrap_id (x : Int) (h : -9223372036854775808 ≤ x) (h' : x ≤ 9223372036854775807) : wrap64 x = x := by unfold wrap64; omega
theorem rd_at (l : List ByteArray) (j : Nat) (h : j < l.length) : rdOf ByteArray.empty l (j : Int) = l[j] := by unfold rdOf; simp [h]
theorem awake (k : Nat) : domesdaylaw13_awake.f k = some true := by
  have h : opts_Read.f k [(⟨97, ⟨#[]⟩, false⟩ : S42)] [(⟨#[45, 97]⟩ : ByteArray), ⟨#[120]⟩] = some ([⟨97, ⟨#[]⟩⟩], [⟨#[120]⟩], ⟨#[]⟩, 0) := by
    unfold opts_Read.f
    rw [if_pos ⟨by decide, by decide, by decide⟩]
    first | kernel_rfl | rfl | decide
  unfold domesdaylaw13_awake.f
  rw [h]
  rfl
theorem same_at (x y : List ByteArray) (he : x = y) (hn : x.length ≤ 1000) : ∀ r i K : Nat, i + r = x.length → r + 1 ≤ K → domesdayref11_Same.l0 K x y (i : Int) = some true := by
  subst he
  intro r
  induction r with
  | zero =>
    intro i K h hK
    obtain ⟨K, rfl⟩ : ∃ j, K = j + 1 := ⟨K - 1, by omega⟩
    rw [domesdayref11_Same.l0, if_neg (by omega)]
  | succ r ih =>
    intro i K h hK
    obtain ⟨K, rfl⟩ : ∃ j, K = j + 1 := ⟨K - 1, by omega⟩
    rw [domesdayref11_Same.l0, if_pos (by omega), if_pos (by omega), if_pos (by omega), if_pos rfl, wrap_id _ (by omega) (by omega), show (i : Int) + 1 = ((i + 1 : Nat) : Int) from by omega]
    exact ih (i + 1) K (by omega) (by omega)
theorem same_refl (x : List ByteArray) (hn : x.length ≤ 1000) (K : Nat) (hK : 1001 ≤ K) : domesdayref11_Same.f K x x = some true := by
  unfold domesdayref11_Same.f
  rw [if_pos rfl]
  exact same_at x x rfl hn x.length 0 K (by omega) (by omega)
/-- What Few has looked at. -/
def Looked (specs : List S42) (args : List ByteArray) : Prop := args.length ≤ 30 ∧ specs.length ≤ 30 ∧ ∀ j, (h : j < args.length) → args[j].size ≤ 200
theorem few_l1 (specs : List S42) (args : List ByteArray) : ∀ r i K : Nat, i + r = min 100 specs.length → i ≤ 100 → i ≤ specs.length → 2 * r + 2 ≤ K → ∃ b, domesdayref13_Few.l1 K specs args (i : Int) = some b ∧ (b = true → args.length ≤ 30 ∧ specs.length ≤ 30) := by
  intro r
  induction r with
  | zero =>
    intro i K h h1 h2 hK
    obtain ⟨K, rfl⟩ : ∃ j, K = j + 2 := ⟨K - 2, by omega⟩
    have e : domesdayref13_Few.l1 (K + 2) specs args (i : Int) = (if (args.length : Int) ≤ 30 then (some (decide ((specs.length : Int) ≤ 30))) else (some false)) := by
      rw [domesdayref13_Few.l1]
      by_cases hl : (i : Int) < (specs.length : Int)
      · rw [if_pos hl, domesdayref13_Few.j3, if_neg (by simp; omega)]
      · rw [if_neg hl, domesdayref13_Few.j3, if_neg (by simp)]
    rw [e]
    by_cases h3 : (args.length : Int) ≤ 30
    · rw [if_pos h3]
      exact ⟨_, rfl, fun hb => ⟨by omega, by have := of_decide_eq_true hb; omega⟩⟩
    · rw [if_neg h3]
      exact ⟨_, rfl, fun hb => by cases hb⟩
  | succ r ih =>
    intro i K h h1 h2 hK
    obtain ⟨K, rfl⟩ : ∃ j, K = j + 2 := ⟨K - 2, by omega⟩
    by_cases hl : i < specs.length ∧ i < 100
    · rw [domesdayref13_Few.l1, if_pos (by omega), domesdayref13_Few.j3, if_pos (by simp; omega), if_pos (by omega), if_pos (by omega)]
      split
      · exact ⟨_, rfl, fun hb => by cases hb⟩
      · rw [wrap_id _ (by omega) (by omega), show (i : Int) + 1 = ((i + 1 : Nat) : Int) from by omega]
        exact ih (i + 1) K (by omega) (by omega) (by omega) (by omega)
    · omega
theorem few_l0 (specs : List S42) (args : List ByteArray) : ∀ r i K : Nat, i + r = min 100 args.length → i ≤ 100 → i ≤ args.length → 2 * r + 300 ≤ K → ∃ b, domesdayref13_Few.l0 K specs args (i : Int) = some b ∧ (b = true → args.length ≤ 30 ∧ specs.length ≤ 30 ∧ ∀ j, i ≤ j → (h : j < args.length) → args[j].size ≤ 200) := by
  intro r
  induction r with
  | zero =>
    intro i K h h1 h2 hK
    obtain ⟨K, rfl⟩ : ∃ j, K = j + 2 := ⟨K - 2, by omega⟩
    have e : domesdayref13_Few.l0 (K + 2) specs args (i : Int) = domesdayref13_Few.l1 K specs args 0 := by
      rw [domesdayref13_Few.l0]
      by_cases hl : (i : Int) < (args.length : Int)
      · rw [if_pos hl, domesdayref13_Few.j1, if_neg (by simp; omega)]
      · rw [if_neg hl, domesdayref13_Few.j1, if_neg (by simp)]
    rw [e]
    have hm : ∃ r, 0 + r = min 100 specs.length ∧ r ≤ 100 := ⟨min 100 specs.length, by omega, by omega⟩
    obtain ⟨r, hr, hr1⟩ := hm
    obtain ⟨b, hb, hc⟩ := few_l1 specs args r 0 K hr (by omega) (by omega) (by omega)
    refine ⟨b, hb, fun ht => ?_⟩
    obtain ⟨c1, c2⟩ := hc ht
    exact ⟨c1, c2, fun j h3 h4 => by omega⟩
  | succ r ih =>
    intro i K h h1 h2 hK
    obtain ⟨K, rfl⟩ : ∃ j, K = j + 2 := ⟨K - 2, by omega⟩
    have hl : i < args.length ∧ i < 100 := by omega
    rw [domesdayref13_Few.l0, if_pos (by omega), domesdayref13_Few.j1, if_pos (by simp; omega), if_pos (by omega), if_pos (by omega), rd_at args i hl.1]
    split
    · exact ⟨_, rfl, fun hb => by cases hb⟩
    · rename_i hsz
      rw [wrap_id _ (by omega) (by omega), show (i : Int) + 1 = ((i + 1 : Nat) : Int) from by omega]
      obtain ⟨b, hb, hc⟩ := ih (i + 1) K (by omega) (by omega) (by omega) (by omega)
      refine ⟨b, hb, fun ht => ?_⟩
      obtain ⟨c1, c2, c3⟩ := hc ht
      refine ⟨c1, c2, fun j h3 h4 => ?_⟩
      rcases Nat.eq_or_lt_of_le h3 with rfl | h5
      · omega
      · exact c3 j h5 h4
theorem few (specs : List S42) (args : List ByteArray) (K : Nat) (hK : 600 ≤ K) : ∃ b, domesdayref13_Few.f K specs args = some b ∧ (b = true → Looked specs args) := by
  have hm : ∃ r, 0 + r = min 100 args.length ∧ r ≤ 100 := ⟨min 100 args.length, by omega, by omega⟩
  obtain ⟨r, hr, hr1⟩ := hm
  obtain ⟨b, hb, hc⟩ := few_l0 specs args r 0 K hr (by omega) (by omega) (by omega)
  refine ⟨b, hb, fun ht => ?_⟩
  obtain ⟨c1, c2, c3⟩ := hc ht
  exact ⟨c1, c2, fun j h => c3 j (Nat.zero_le _) h⟩
/-- Read of small arguments. -/
theorem read_f (k : Nat) (specs : List S42) (args : List ByteArray) (h1 : specs.length ≤ 1000) (h2 : args.length ≤ 1000) (h3 : ∀ a ∈ args, a.size ≤ 1000) : opts_Read.f k specs args = some (readF specs args.length args [] []) := by
  unfold opts_Read.f
  rw [if_pos ⟨h1, h2, List.all_eq_true.2 fun a ha => decide_eq_true (h3 a ha)⟩]
end Go.Proofs.Ytljlhknpfnphnaa.Pure
