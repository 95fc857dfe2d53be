/- P13.1: of all specs, and arguments, the options and operands, or the argument that is to blame, are the chapter's (30 of each). -/
import Derived.Test.YtljlhknpfnphnaaPureOptBase
import Derived.Test.YtljlhknpfnphnaaQReads
namespace Go.Proofs.Ytljlhknpfnphnaa.Pure
open Go.RowKit Go.Proofs.Ytljlhknpfnphnaa.QOpts Go.Proofs.YtljlhknpfnphnaaW.PrintWords Go.Proofs.YtljlhknpfnphnaaW.PrintLast Go.Proofs.YtljlhknpfnphnaaW.PrintMore
set_option linter.unusedVariables false
set_option linter.unusedSimpArgs false

theorem begins_f (a b : ByteArray) : domesdayref13_begins.f a b = some (beginsB a b) := by
  unfold domesdayref13_begins.f beginsB
  rw [← Lib.hasPrefix_raw]
  by_cases h : b.size ≤ a.size
  · rw [if_pos (by omega), if_pos (by omega), if_pos (by omega), decide_eq_true h]
    simp
  · rw [if_neg (by omega), decide_eq_false h]
    rfl
theorem rd_spec (l : List S42) (j : Nat) (h : j < l.length) : rd_T42 l (j : Int) = l[j] := by unfold rd_T42; simp [h]
theorem none_all {α : Type} {p : α → Bool} {l : List α} (h : NoneB p l l.length) : ∀ x ∈ l, p x = false := by
  intro x hx
  obtain ⟨j, hj, rfl⟩ := List.getElem_of_mem hx
  exact h j hj hj
theorem noneB_step {α : Type} {p : α → Bool} {l : List α} {i : Nat} (h : NoneB p l i) (hi : i < l.length) (hp : p l[i] = false) : NoneB p l (i + 1) := by
  intro j hj hji
  rcases Nat.lt_or_ge j i with h2 | h2
  · exact h j hj h2
  · obtain rfl : j = i := by omega
    exact hp
/-! ### Letter -/
theorem letter_l0 (specs : List S42) (c : Int) (hs : specs.length ≤ 1000) : ∀ r i K : Nat, i + r = specs.length → r + 1 ≤ K → NoneB (letterP c) specs i →
    ∃ p, domesdayref13_Letter.l0 K specs c (i : Int) = some p ∧ Idx (letterP c) specs p := by
  intro r
  induction r with
  | zero =>
    intro i K h hK hn
    obtain ⟨K, rfl⟩ : ∃ j, K = j + 1 := ⟨K - 1, by omega⟩
    obtain rfl : i = specs.length := by omega
    refine ⟨-1, ?_, .inr ⟨rfl, none_all hn⟩⟩
    rw [domesdayref13_Letter.l0, if_neg (by omega)]
  | succ r ih =>
    intro i K h hK hn
    obtain ⟨K, rfl⟩ : ∃ j, K = j + 1 := ⟨K - 1, by omega⟩
    have hi : i < specs.length := by omega
    rw [domesdayref13_Letter.l0, if_pos (by omega), if_pos (by omega), rd_spec specs i hi]
    by_cases hc : specs[i].f0 = c
    · rw [if_pos hc]
      exact ⟨_, rfl, .inl ⟨i, hi, rfl, beq_iff_eq.2 hc, fun j hj => hn j (by omega) hj⟩⟩
    · rw [if_neg hc, wrap_id _ (by omega) (by omega), show (i : Int) + 1 = ((i + 1 : Nat) : Int) from by omega]
      exact ih (i + 1) K (by omega) (by omega) (noneB_step hn hi (beq_eq_false_iff_ne.2 hc))
theorem letter_f (specs : List S42) (c : Int) (hs : specs.length ≤ 1000) (K : Nat) (hK : specs.length + 1 ≤ K) :
    ∃ p, domesdayref13_Letter.f K specs c = some p ∧ ((∃ k : Nat, ∃ hk : k < specs.length, p = (k : Int) ∧ specs.find? (letterP c) = some specs[k]) ∨ (p = -1 ∧ specs.find? (letterP c) = none)) := by
  obtain ⟨p, h1, h2⟩ := letter_l0 specs c hs specs.length 0 K (by omega) (by omega) (fun j h h' => by omega)
  exact ⟨p, h1, h2.find⟩
/-! ### Meant -/
theorem exact_iff (name : ByteArray) (x : S42) : exactP name x = true ↔ x.f1.toList = name.toList ∧ ¬ name.toList = [] := by
  unfold exactP
  rw [Bool.and_eq_true, beq_iff_eq]
  constructor
  · rintro ⟨h1, h2⟩
    refine ⟨h2, fun h => ?_⟩
    rw [h2, h] at h1
    exact absurd h1 (by decide)
  · rintro ⟨h1, h2⟩
    refine ⟨?_, h1⟩
    rw [h1]
    cases hn : name.toList with
    | nil => exact absurd hn h2
    | cons a l => rfl
theorem meant_l1 (specs : List S42) (name : ByteArray) (found n : Int) (hs : specs.length ≤ 1000) : ∀ r i K : Nat, i + r = specs.length → r + 1 ≤ K → NoneB (exactP name) specs i →
    ∃ p, domesdayref13_Meant.l1 K specs name found n (i : Int) = some p ∧ ((∃ k : Nat, ∃ hk : k < specs.length, p = (k : Int) ∧ specs.find? (exactP name) = some specs[k]) ∨ (p = (if n = 1 then found else -1) ∧ specs.find? (exactP name) = none)) := by
  intro r
  induction r with
  | zero =>
    intro i K h hK hn
    obtain ⟨K, rfl⟩ : ∃ j, K = j + 1 := ⟨K - 1, by omega⟩
    obtain rfl : i = specs.length := by omega
    refine ⟨if n = 1 then found else -1, ?_, .inr ⟨rfl, ?_⟩⟩
    · rw [domesdayref13_Meant.l1, if_neg (by omega)]
      split <;> rfl
    · rw [List.find?_eq_none]
      intro x hx
      rw [none_all hn x hx]
      decide
  | succ r ih =>
    intro i K h hK hn
    obtain ⟨K, rfl⟩ : ∃ j, K = j + 1 := ⟨K - 1, by omega⟩
    have hi : i < specs.length := by omega
    rw [domesdayref13_Meant.l1, if_pos (by omega), if_pos (by omega), rd_spec specs i hi]
    have go : ∀ hp : exactP name specs[i] = false, ∃ p, domesdayref13_Meant.l1 K specs name found n (wrap64 ((i : Int) + 1)) = some p ∧ ((∃ k : Nat, ∃ hk : k < specs.length, p = (k : Int) ∧ specs.find? (exactP name) = some specs[k]) ∨ (p = (if n = 1 then found else -1) ∧ specs.find? (exactP name) = none)) := by
      intro hp
      rw [wrap_id _ (by omega) (by omega), show (i : Int) + 1 = ((i + 1 : Nat) : Int) from by omega]
      exact ih (i + 1) K (by omega) (by omega) (noneB_step hn hi hp)
    by_cases h1 : specs[i].f1.toList = name.toList
    · rw [if_pos h1]
      by_cases h2 : name.toList = []
      · rw [if_pos h2]
        exact go (Bool.eq_false_iff.2 fun hx => ((exact_iff name _).1 hx).2 h2)
      · rw [if_neg h2]
        refine ⟨_, rfl, .inl ⟨i, hi, rfl, ?_⟩⟩
        rw [List.find?_eq_some_iff_getElem]
        exact ⟨(exact_iff name _).2 ⟨h1, h2⟩, i, hi, rfl, fun j hj => by rw [hn j (by omega) hj]; rfl⟩
    · rw [if_neg h1]
      exact go (Bool.eq_false_iff.2 fun hx => h1 ((exact_iff name _).1 hx).1)
/-- What a place says of what is meant. -/
def Told (specs : List S42) (name : ByteArray) (p : Int) : Prop := (∃ k : Nat, ∃ hk : k < specs.length, p = (k : Int) ∧ meantF specs name = some specs[k]) ∨ (p = -1 ∧ meantF specs name = none)
theorem meant_l0 (specs : List S42) (name : ByteArray) (hs : specs.length ≤ 1000) : ∀ (i K : Nat) (found n : Int), i ≤ specs.length → i + specs.length + 2 ≤ K → n = (((specs.drop i).filter (prefP name)).length : Int) →
    (∀ x rest, (specs.drop i).filter (prefP name) = x :: rest → ∃ k : Nat, ∃ hk : k < specs.length, found = (k : Int) ∧ specs[k] = x) →
    ∃ p, domesdayref13_Meant.l0 K specs name found n ((i : Int) - 1) = some p ∧ Told specs name p := by
  intro i
  induction i with
  | zero =>
    intro K found n hi hK hn hf
    obtain ⟨K, rfl⟩ : ∃ j, K = j + 1 := ⟨K - 1, by omega⟩
    rw [List.drop_zero] at hn hf
    rw [domesdayref13_Meant.l0, if_neg (by omega)]
    obtain ⟨p, h1, h2⟩ := meant_l1 specs name found n hs specs.length 0 K (by omega) (by omega) (fun j h h' => by omega)
    refine ⟨p, h1, ?_⟩
    unfold Told meantF
    rcases h2 with ⟨k, hk, rfl, h3⟩ | ⟨h3, h4⟩
    · rw [h3]
      exact .inl ⟨k, hk, rfl, rfl⟩
    · rw [h4]
      cases hl : specs.filter (prefP name) with
      | nil =>
        rw [hl] at hn
        rw [if_neg (by rw [hn]; decide)] at h3
        exact .inr ⟨h3, rfl⟩
      | cons x rest =>
        cases rest with
        | nil =>
          rw [hl] at hn
          rw [if_pos (by rw [hn]; rfl)] at h3
          obtain ⟨k, hk, hfk, hx⟩ := hf x [] hl
          exact .inl ⟨k, hk, by rw [h3, hfk], by rw [hx]; rfl⟩
        | cons y rest =>
          rw [hl] at hn
          simp only [List.length_cons] at hn
          rw [if_neg (by omega)] at h3
          exact .inr ⟨h3, rfl⟩
  | succ i ih =>
    intro K found n hi hK hn hf
    obtain ⟨K, rfl⟩ : ∃ j, K = j + 1 := ⟨K - 1, by omega⟩
    have hd : specs.drop i = specs[i] :: specs.drop (i + 1) := List.drop_eq_getElem_cons (by omega)
    have hle : ((specs.drop (i + 1)).filter (prefP name)).length ≤ 1000 := Nat.le_trans (List.length_filter_le _ _) (by simp; omega)
    rw [domesdayref13_Meant.l0, if_pos (by omega), if_pos (by omega), if_pos (by omega), show ((i + 1 : Nat) : Int) - 1 = (i : Int) from by omega, rd_spec specs i (by omega), wrap_id ((i : Int) - 1) (by omega) (by omega)]
    by_cases h1 : specs[i].f1.toList = []
    · rw [if_pos h1]
      have hp : prefP name specs[i] = false := by unfold prefP; rw [h1]; rfl
      refine ih K found n (by omega) (by omega) ?_ ?_
      · rw [hd, List.filter_cons_of_neg (by rw [hp]; decide)]; exact hn
      · rw [hd, List.filter_cons_of_neg (by rw [hp]; decide)]; exact hf
    · rw [if_neg h1, begins_f]
      simp only [Option.bind_some]
      have he : prefP name specs[i] = beginsB specs[i].f1 name := by
        unfold prefP
        cases hl : specs[i].f1.toList with
        | nil => exact absurd hl h1
        | cons a l => rfl
      by_cases h2 : beginsB specs[i].f1 name = true
      · rw [if_pos h2, wrap_id _ (by omega) (by omega)]
        refine ih K _ _ (by omega) (by omega) ?_ ?_
        · rw [hd, List.filter_cons_of_pos (by rw [he]; exact h2)]
          simp only [List.length_cons]
          omega
        · rw [hd, List.filter_cons_of_pos (by rw [he]; exact h2)]
          intro x rest hx
          simp only [List.cons.injEq] at hx
          exact ⟨i, by omega, rfl, hx.1⟩
      · rw [if_neg h2]
        have hp : prefP name specs[i] = false := by rw [he]; exact Bool.eq_false_iff.2 h2
        refine ih K found n (by omega) (by omega) ?_ ?_
        · rw [hd, List.filter_cons_of_neg (by rw [hp]; decide)]; exact hn
        · rw [hd, List.filter_cons_of_neg (by rw [hp]; decide)]; exact hf
theorem meant_f (specs : List S42) (name : ByteArray) (hs : specs.length ≤ 1000) (K : Nat) (hK : 2 * specs.length + 2 ≤ K) : ∃ p, domesdayref13_Meant.f K specs name = some p ∧ Told specs name p := by
  unfold domesdayref13_Meant.f
  rw [wrap_id _ (by omega) (by omega)]
  exact meant_l0 specs name hs specs.length K (-1) 0 (Nat.le_refl _) (by omega) (by simp) (by simp)
/-! ### The '=' of a long name -/
theorem len_list (s : ByteArray) : s.data.toList.length = s.size := by rw [Array.length_toList]; rfl
theorem bt_list (s : ByteArray) (c : Nat) (h : c < s.size) : s.data.toList[c]? = some (s[c]'h) ∧ bt s (c : Int) = ((s[c]'h).toNat : Int) := by
  have hs : (c : Int).toNat < s.size := by simpa using h
  refine ⟨?_, ?_⟩
  · rw [List.getElem?_eq_getElem (by rw [len_list]; exact h)]
    rfl
  · rw [← bt_at s (c : Int) hs]
    rfl
theorem rest2_list (a : ByteArray) (k : Nat) : (rest2 a).data.toList[k]? = a.data.toList[2 + k]? := by
  unfold rest2
  rw [Lib.extract_to_end, List.getElem?_drop]
def eqP (a : ByteArray) : Nat := if 0 ≤ eqAt (rest2 a) then 2 + (eqAt (rest2 a)).toNat else a.size
theorem rest2_size (a : ByteArray) (h : 2 ≤ a.size) : (rest2 a).size = a.size - 2 := by
  unfold rest2
  rw [ByteArray.size_extract]
  omega
theorem eqP_le (a : ByteArray) (h : 2 ≤ a.size) : 2 ≤ eqP a ∧ eqP a ≤ a.size := by
  unfold eqP
  have := eqAt_bd (rest2 a)
  rw [rest2_size a h] at this
  split <;> omega
theorem eqP_at (a : ByteArray) (h : 2 ≤ a.size) (hl : eqP a < a.size) : bt a (eqP a : Int) = 61 := by
  have hq : 0 ≤ eqAt (rest2 a) := by
    unfold eqP at hl
    split at hl
    · assumption
    · omega
  have he : eqP a = 2 + (eqAt (rest2 a)).toNat := by unfold eqP; rw [if_pos hq]
  have h1 := (Lib.indexByte_some (show Lib.indexByte (rest2 a).data.toList 61 = (((eqAt (rest2 a)).toNat : Nat) : Int) from (Int.toNat_of_nonneg hq).symm)).1
  rw [rest2_list, ← he] at h1
  obtain ⟨h2, h3⟩ := bt_list a (eqP a) hl
  rw [h2] at h1
  rw [h3, Option.some.inj h1]
  rfl
theorem eqP_before (a : ByteArray) (h : 2 ≤ a.size) (x : Nat) (h2 : 2 ≤ x) (hx : x < eqP a) : bt a (x : Int) ≠ 61 := by
  have hle := eqP_le a h
  intro hb
  obtain ⟨h3, h4⟩ := bt_list a x (by omega)
  have h5 : a[x]'(by omega) = 61 := by
    apply UInt8.toNat_inj.1
    rw [h4] at hb
    show _ = 61
    omega
  rw [h5] at h3
  have h6 : (rest2 a).data.toList[x - 2]? = some 61 := by rw [rest2_list, show 2 + (x - 2) = x from by omega]; exact h3
  by_cases hq : 0 ≤ eqAt (rest2 a)
  · have he : eqP a = 2 + (eqAt (rest2 a)).toNat := by unfold eqP; rw [if_pos hq]
    exact (Lib.indexByte_some (show Lib.indexByte (rest2 a).data.toList 61 = (((eqAt (rest2 a)).toNat : Nat) : Int) from (Int.toNat_of_nonneg hq).symm)).2 (x - 2) (by omega) h6
  · have h7 := eqAt_bd (rest2 a)
    have h8 : Lib.indexByte (rest2 a).data.toList 61 = -1 := by
      have h9 : eqAt (rest2 a) = -1 := by omega
      exact h9
    exact Lib.indexByte_none h8 (x - 2) h6
theorem eqP_has (a : ByteArray) (h : 2 ≤ a.size) : 0 ≤ eqAt (rest2 a) ↔ eqP a < a.size := by
  have := eqAt_bd (rest2 a)
  rw [rest2_size a h] at this
  unfold eqP
  split <;> omega
theorem name_eq (a : ByteArray) (h : 2 ≤ a.size) : nameOf (rest2 a) = a.extract 2 (eqP a) := by
  unfold nameOf eqP
  by_cases hq : 0 ≤ eqAt (rest2 a)
  · rw [if_pos hq, if_pos hq]
    have := eqAt_bd (rest2 a)
    rw [rest2_size a h] at this
    unfold rest2
    rw [ByteArray.extract_extract]
    congr 1
    unfold rest2 at this
    omega
  · rw [if_neg hq, if_neg hq]
    rfl
theorem value_eq (a : ByteArray) (h : 2 ≤ a.size) (hq : 0 ≤ eqAt (rest2 a)) : valueOf (rest2 a) = a.extract (eqP a + 1) a.size := by
  unfold valueOf eqP
  rw [if_pos hq, if_pos hq]
  have := eqAt_bd (rest2 a)
  have h2 := rest2_size a h
  rw [h2] at this
  rw [h2]
  unfold rest2
  rw [ByteArray.extract_extract]
  unfold rest2 at this
  congr 1
  omega
/-! ### Read -/
theorem ref_l1 (specs : List S42) (args : List ByteArray) (os : List S36) (ps : List ByteArray) (i : Int) (a : ByteArray) (h2 : 2 ≤ a.size) (hb : a.size ≤ 1000) : ∀ d x K : Nat, x + d = eqP a → 2 ≤ x → d + 1 ≤ K →
    ∃ K', K = K' + d + 1 ∧ domesdayref13_Read.l1 K specs args os ps i a (x : Int) = domesdayref13_Read.j3 K' specs args os ps i a (eqP a : Int) := by
  have hle := eqP_le a h2
  intro d
  induction d with
  | zero =>
    intro x K hx hx2 hK
    obtain ⟨K, rfl⟩ : ∃ j, K = j + 1 := ⟨K - 1, by omega⟩
    obtain rfl : x = eqP a := by omega
    refine ⟨K, rfl, ?_⟩
    rw [domesdayref13_Read.l1]
    by_cases hl : eqP a < a.size
    · rw [if_pos (by omega), if_pos (by omega), if_pos (eqP_at a h2 hl)]
    · rw [if_neg (by omega)]
  | succ d ih =>
    intro x K hx hx2 hK
    obtain ⟨K, rfl⟩ : ∃ j, K = j + 1 := ⟨K - 1, by omega⟩
    obtain ⟨K', h3, h4⟩ := ih (x + 1) K (by omega) (by omega) (by omega)
    refine ⟨K', by omega, ?_⟩
    rw [domesdayref13_Read.l1, if_pos (by omega), if_pos (by omega), if_neg (eqP_before a h2 x hx2 (by omega)), wrap_id _ (by omega) (by omega), show (x : Int) + 1 = ((x + 1 : Nat) : Int) from by omega, h4]
def conv (R : List S36 × List ByteArray × ByteArray × Int) : List S36 × List ByteArray × ByteArray × Bool := (R.1, R.2.1, R.2.2.1, R.2.2.2 == 0)
/-- How the document takes an argument: as takeF, or it blames it. -/
def Takes (specs : List S42) (args : List ByteArray) (ps : List ByteArray) (a : ByteArray) (i : Nat) (b : Nat) (K : Nat) (R : Option (List ByteArray × List S36)) (r : Option (List S36 × List ByteArray × ByteArray × Bool)) : Prop :=
  (R = none ∧ r = some ([], [], a, false)) ∨ (∃ (i' K' : Nat) (os' : List S36), R = some (args.drop i', os') ∧ i + 1 ≤ i' ∧ i' ≤ args.length ∧ os'.length ≤ b ∧ K ≤ K' + 620 ∧ r = domesdayref13_Read.l0 K' specs args os' ps (i' : Int))
/-- There is a '=' in a long name's argument. -/
def HasEq (a : ByteArray) : Prop := 0 ≤ eqAt (rest2 a)
instance (a : ByteArray) : Decidable (HasEq a) := inferInstanceAs (Decidable (0 ≤ eqAt (rest2 a)))
theorem long_none {specs : List S42} {a : ByteArray} {args : List ByteArray} {os : List S36} (hm : meantF specs (nameOf (rest2 a)) = none) : longF specs a args os = none := by
  unfold longF; rw [hm]
theorem long_val {specs : List S42} {a : ByteArray} {args : List ByteArray} {os : List S36} {x : S42} (hm : meantF specs (nameOf (rest2 a)) = some x) (hv : x.f2 = true) (hq : HasEq a) : longF specs a args os = some (args, os ++ [⟨x.f0, valueOf (rest2 a)⟩]) := by
  unfold longF; rw [hm]; dsimp only; rw [if_pos hv, if_pos (show 0 ≤ eqAt (rest2 a) from hq)]
theorem long_next {specs : List S42} {a : ByteArray} {args : List ByteArray} {os : List S36} {x : S42} (hm : meantF specs (nameOf (rest2 a)) = some x) (hv : x.f2 = true) (hq : ¬ HasEq a) : longF specs a args os = match args with | [] => none | b :: rest => some (rest, os ++ [⟨x.f0, b⟩]) := by
  unfold longF; rw [hm]; dsimp only; rw [if_pos hv, if_neg (show ¬ 0 ≤ eqAt (rest2 a) from hq)]; cases args <;> rfl
theorem long_has {specs : List S42} {a : ByteArray} {args : List ByteArray} {os : List S36} {x : S42} (hm : meantF specs (nameOf (rest2 a)) = some x) (hv : ¬ x.f2 = true) (hq : HasEq a) : longF specs a args os = none := by
  unfold longF; rw [hm]; dsimp only; rw [if_neg hv, if_pos (show 0 ≤ eqAt (rest2 a) from hq)]
theorem long_plain {specs : List S42} {a : ByteArray} {args : List ByteArray} {os : List S36} {x : S42} (hm : meantF specs (nameOf (rest2 a)) = some x) (hv : ¬ x.f2 = true) (hq : ¬ HasEq a) : longF specs a args os = some (args, os ++ [⟨x.f0, ⟨#[]⟩⟩]) := by
  unfold longF; rw [hm]; dsimp only; rw [if_neg hv, if_neg (show ¬ 0 ≤ eqAt (rest2 a) from hq)]
theorem let_none {specs : List S42} {a : ByteArray} {args : List ByteArray} {os : List S36} {m i : Nat} (hi : i < a.size) (hm : specs.find? (letterP (bt a (i : Int))) = none) : lettersF specs a (m + 1) i args os = none := by
  unfold lettersF; rw [if_pos hi, hm]
theorem let_val {specs : List S42} {a : ByteArray} {args : List ByteArray} {os : List S36} {m i : Nat} {x : S42} (hi : i < a.size) (hm : specs.find? (letterP (bt a (i : Int))) = some x) (hv : x.f2 = true) (hq : i + 1 < a.size) : lettersF specs a (m + 1) i args os = some (args, os ++ [⟨bt a (i : Int), a.extract (i + 1) a.size⟩]) := by
  unfold lettersF; rw [if_pos hi, hm]; dsimp only; rw [if_pos hv, if_pos hq]
theorem let_next {specs : List S42} {a : ByteArray} {args : List ByteArray} {os : List S36} {m i : Nat} {x : S42} (hi : i < a.size) (hm : specs.find? (letterP (bt a (i : Int))) = some x) (hv : x.f2 = true) (hq : ¬ i + 1 < a.size) : lettersF specs a (m + 1) i args os = match args with | [] => none | b :: rest => some (rest, os ++ [⟨bt a (i : Int), b⟩]) := by
  unfold lettersF; rw [if_pos hi, hm]; dsimp only; rw [if_pos hv, if_neg hq]; cases args <;> rfl
theorem let_plain {specs : List S42} {a : ByteArray} {args : List ByteArray} {os : List S36} {m i : Nat} {x : S42} (hi : i < a.size) (hm : specs.find? (letterP (bt a (i : Int))) = some x) (hv : ¬ x.f2 = true) : lettersF specs a (m + 1) i args os = lettersF specs a m (i + 1) args (os ++ [⟨bt a (i : Int), ⟨#[]⟩⟩]) := by
  conv => lhs; unfold lettersF
  rw [if_pos hi, hm]; dsimp only; rw [if_neg hv]
theorem let_end {specs : List S42} {a : ByteArray} {args : List ByteArray} {os : List S36} {m i : Nat} (hi : ¬ i < a.size) : lettersF specs a m i args os = some (args, os) := by
  cases m with
  | zero => rfl
  | succ m => unfold lettersF; rw [if_neg hi]
set_option maxHeartbeats 2000000 in
theorem take_long (specs : List S42) (args : List ByteArray) (os : List S36) (ps : List ByteArray) (i : Nat) (a : ByteArray) (hs : specs.length ≤ 30) (hl : args.length ≤ 30) (hi : i < args.length) (h2 : 2 ≤ a.size) (hb : a.size ≤ 200) (ho : os.length ≤ 10000) (K : Nat) (hK : 300 ≤ K) :
    Takes specs args ps a i (os.length + 1) K (longF specs a (args.drop (i + 1)) os) (domesdayref13_Read.l1 K specs args os ps (i : Int) a 2) := by
  have hle := eqP_le a h2
  have hn := name_eq a h2
  have hhas : Aside0 (HasEq a ↔ eqP a < a.size) := ⟨eqP_has a h2⟩
  have hval : Aside0 (HasEq a → valueOf (rest2 a) = a.extract (eqP a + 1) a.size) := ⟨value_eq a h2⟩
  obtain ⟨K1, hK1, e1⟩ := ref_l1 specs args os ps (i : Int) a h2 (by omega) (eqP a - 2) 2 K (by omega) (by omega) (by omega)
  rw [show (2 : Int) = ((2 : Nat) : Int) from rfl, e1]
  clear e1
  generalize eqP a = E at *
  obtain ⟨K2, rfl⟩ : ∃ j, K1 = (j + 1) + 1 := ⟨K1 - 2, by omega⟩
  have hk2 : 2 * specs.length + 2 ≤ K2 + 1 := by omega
  have hw1 : Aside0 (wrap64 ((i : Int) + 1) = ((i + 1 : Nat) : Int)) := ⟨by rw [wrap_id _ (by omega) (by omega)]; omega⟩
  have hwe : Aside0 (wrap64 ((E : Int) + 1) = ((E + 1 : Nat) : Int)) := ⟨by rw [wrap_id _ (by omega) (by omega)]; omega⟩
  obtain ⟨p, hp, ht⟩ := meant_f specs (a.extract 2 (E)) (by omega) (K2 + 1) hk2
  have hK3 : K ≤ K2 + 620 := by omega
  have hK4 : K ≤ K2 + 1 + 620 := by omega
  clear hK1 hk2
  have e3 : domesdayref13_Read.j3 (K2 + 1 + 1) specs args os ps (i : Int) a (E : Int) = (if p < 0 then (domesdayref13_Read.j4 (K2 + 1) specs args os ps (i : Int) a (E : Int) p true) else (if (E : Int) < (a.size : Int) then (if 0 ≤ p then (if p < (specs.length : Int) then (if ((rd_T42 specs p).f2 = true) then (if (E : Int) = (a.size : Int) then (if (rd_T42 specs p).f2 = true then (domesdayref13_Read.j4 (K2 + 1) specs args os ps (i : Int) a (E : Int) p ((wrap64 ((i : Int) + 1)) == (args.length : Int))) else (domesdayref13_Read.j4 (K2 + 1) specs args os ps (i : Int) a (E : Int) p false)) else (domesdayref13_Read.j4 (K2 + 1) specs args os ps (i : Int) a (E : Int) p false)) else (domesdayref13_Read.j4 (K2 + 1) specs args os ps (i : Int) a (E : Int) p true)) else (none)) else (none)) else (if (E : Int) = (a.size : Int) then (if 0 ≤ p then (if p < (specs.length : Int) then (if (rd_T42 specs p).f2 = true then (domesdayref13_Read.j4 (K2 + 1) specs args os ps (i : Int) a (E : Int) p ((wrap64 ((i : Int) + 1)) == (args.length : Int))) else (domesdayref13_Read.j4 (K2 + 1) specs args os ps (i : Int) a (E : Int) p false)) else (none)) else (none)) else (domesdayref13_Read.j4 (K2 + 1) specs args os ps (i : Int) a (E : Int) p false)))) := by
    rw [domesdayref13_Read.j3, if_pos (by omega), if_pos (by omega), Int.toNat_natCast, hp]
    simp only [Option.bind_some]
  rw [e3]
  clear e3 hp
  have blame : domesdayref13_Read.j4 (K2 + 1) specs args os ps (i : Int) a (E : Int) p true = some ([], [], a, false) := by
    rw [domesdayref13_Read.j4, if_pos rfl]
  rcases ht with ⟨k, hk, rfl, hm⟩ | ⟨rfl, hm⟩
  · rw [← hn] at hm
    have hrd := rd_spec specs k hk
    rw [if_neg (show ¬ (k : Int) < 0 from by omega)]
    by_cases hq : E < a.size
    · have hq0 := hhas.out.2 hq
      rw [if_pos (show (E : Int) < (a.size : Int) from by omega), if_pos (show (0 : Int) ≤ (k : Int) from by omega), if_pos (show (k : Int) < (specs.length : Int) from by omega), hrd]
      by_cases hv : specs[k].f2 = true
      · rw [if_pos hv, if_neg (show ¬ (E : Int) = (a.size : Int) from by omega)]
        right
        refine ⟨i + 1, K2, os ++ [⟨specs[k].f0, valueOf (rest2 a)⟩], long_val hm hv hq0, Nat.le_refl _, hi, by simp, by omega, ?_⟩
        rw [domesdayref13_Read.j4, if_neg (by decide), if_pos (by omega), if_pos (by omega), if_pos (by omega), hwe.out, if_pos (by omega), if_pos (by omega), if_pos (by omega), hrd, hw1.out, hval.out hq0, Int.toNat_natCast]
      · rw [if_neg hv]
        exact .inl ⟨long_has hm hv hq0, blame⟩
    · have hq0 : ¬ HasEq a := fun h => hq (hhas.out.1 h)
      have hqe : (E : Int) = (a.size : Int) := by omega
      rw [if_neg (show ¬ (E : Int) < (a.size : Int) from by omega), if_pos hqe, if_pos (show (0 : Int) ≤ (k : Int) from by omega), if_pos (show (k : Int) < (specs.length : Int) from by omega), hrd]
      by_cases hv : specs[k].f2 = true
      · rw [if_pos hv, hw1.out]
        have hlx := long_next (args := args.drop (i + 1)) (os := os) hm hv hq0
        by_cases hn : i + 1 < args.length
        · have hd : args.drop (i + 1) = args[i + 1] :: args.drop (i + 2) := List.drop_eq_getElem_cons hn
          have hb : (((i + 1 : Nat) : Int) == (args.length : Int)) = false := beq_eq_false_iff_ne.2 (by omega)
          rw [hb]
          rw [hd] at hlx ⊢
          right
          refine ⟨i + 2, K2, _, hlx, by omega, hn, by simp, by omega, ?_⟩
          rw [domesdayref13_Read.j4, if_neg (by decide), if_pos (by omega), if_pos (by omega), if_neg (by omega), hrd, if_pos hv, hw1.out, if_pos (by omega), if_pos (by omega), if_pos (by omega), rd_at args (i + 1) hn, wrap_id _ (by omega) (by omega), show ((i + 1 : Nat) : Int) + 1 = ((i + 2 : Nat) : Int) from by omega]
        · have hd : args.drop (i + 1) = [] := List.drop_eq_nil_of_le (by omega)
          have hb : (((i + 1 : Nat) : Int) == (args.length : Int)) = true := beq_iff_eq.2 (by omega)
          rw [hb]
          rw [hd] at hlx ⊢
          exact .inl ⟨hlx, blame⟩
      · rw [if_neg hv]
        right
        refine ⟨i + 1, K2, _, long_plain hm hv hq0, Nat.le_refl _, hi, by simp, by omega, ?_⟩
        rw [domesdayref13_Read.j4, if_neg (by decide), if_pos (by omega), if_pos (by omega), if_neg (by omega), hrd, if_neg hv, if_pos (by omega), hw1.out]
  · rw [← hn] at hm
    rw [if_pos (by decide)]
    exact .inl ⟨long_none hm, blame⟩
set_option maxHeartbeats 2000000 in
theorem take_letters (specs : List S42) (args : List ByteArray) (ps : List ByteArray) (i : Nat) (a : ByteArray) (hs : specs.length ≤ 30) (hl : args.length ≤ 30) (hi : i < args.length) (hb : a.size ≤ 200) : ∀ (m at_ : Nat) (os : List S36) (K : Nat), a.size ≤ at_ + m → at_ ≤ a.size → os.length ≤ 20000 → 3 * m + 60 ≤ K → os.length + m ≤ 11000 →
    (lettersF specs a m at_ (args.drop (i + 1)) os = none ∧ domesdayref13_Read.l2 K specs args os ps (i : Int) a (at_ : Int) = some ([], [], a, false)) ∨ (∃ (i' K' : Nat) (os' : List S36), lettersF specs a m at_ (args.drop (i + 1)) os = some (args.drop i', os') ∧ i + 1 ≤ i' ∧ i' ≤ args.length ∧ os'.length ≤ os.length + m ∧ K ≤ K' + 3 * m + 5 ∧ domesdayref13_Read.l2 K specs args os ps (i : Int) a (at_ : Int) = domesdayref13_Read.l0 K' specs args os' ps (i' : Int)) := by
  have hw1 : Aside0 (wrap64 ((i : Int) + 1) = ((i + 1 : Nat) : Int)) := ⟨by rw [wrap_id _ (by omega) (by omega)]; omega⟩
  have hw2 : Aside0 (wrap64 (((i + 1 : Nat) : Int) + 1) = ((i + 2 : Nat) : Int)) := ⟨by rw [wrap_id _ (by omega) (by omega)]; omega⟩
  intro m
  induction m with
  | zero =>
    intro at_ os K h1 h2 h3 hK h4
    obtain ⟨K, rfl⟩ : ∃ j, K = j + 1 := ⟨K - 1, by omega⟩
    right
    refine ⟨i + 1, K, os, rfl, Nat.le_refl _, hi, by omega, by omega, ?_⟩
    rw [domesdayref13_Read.l2, if_neg (by omega), hw1.out]
  | succ m ih =>
    intro at_ os K h1 h2 h3 hK h4
    by_cases hat : at_ < a.size
    · obtain ⟨K, rfl⟩ : ∃ j, K = j + 1 + 1 + 1 + 1 := ⟨K - 4, by omega⟩
      have hwa : Aside0 (wrap64 ((at_ : Int) + 1) = ((at_ + 1 : Nat) : Int)) := ⟨by rw [wrap_id _ (by omega) (by omega)]; omega⟩
      obtain ⟨p, hp, ht⟩ := letter_f specs (bt a (at_ : Int)) (by omega) (K + 1 + 1 + 1) (by omega)
      have e2 : domesdayref13_Read.l2 (K + 1 + 1 + 1 + 1) specs args os ps (i : Int) a (at_ : Int) = (if p < 0 then (domesdayref13_Read.j6 (K + 1 + 1 + 1) specs args os ps (i : Int) a (at_ : Int) p true) else (if 0 ≤ p then (if p < (specs.length : Int) then (if (rd_T42 specs p).f2 = true then (if (wrap64 ((at_ : Int) + 1)) = (a.size : Int) then (domesdayref13_Read.j6 (K + 1 + 1 + 1) specs args os ps (i : Int) a (at_ : Int) p ((wrap64 ((i : Int) + 1)) == (args.length : Int))) else (domesdayref13_Read.j6 (K + 1 + 1 + 1) specs args os ps (i : Int) a (at_ : Int) p false)) else (domesdayref13_Read.j6 (K + 1 + 1 + 1) specs args os ps (i : Int) a (at_ : Int) p false)) else (none)) else (none))) := by
        rw [domesdayref13_Read.l2, if_pos (by omega), if_pos (by omega), hp]
        simp only [Option.bind_some]
      rw [e2]
      clear e2 hp
      have blame : domesdayref13_Read.j6 (K + 1 + 1 + 1) specs args os ps (i : Int) a (at_ : Int) p true = some ([], [], a, false) := by
        rw [domesdayref13_Read.j6, if_pos rfl]
      rcases ht with ⟨k, hk, rfl, hm⟩ | ⟨rfl, hm⟩
      · have hrd := rd_spec specs k hk
        rw [if_neg (show ¬ (k : Int) < 0 from by omega), if_pos (show (0 : Int) ≤ (k : Int) from by omega), if_pos (show (k : Int) < (specs.length : Int) from by omega), hrd, hwa.out]
        by_cases hv : specs[k].f2 = true
        · rw [if_pos hv]
          by_cases hq : at_ + 1 < a.size
          · rw [if_neg (show ¬ ((at_ + 1 : Nat) : Int) = (a.size : Int) from by omega)]
            right
            refine ⟨i + 1, K, _, let_val hat hm hv hq, Nat.le_refl _, hi, by simp, by omega, ?_⟩
            rw [domesdayref13_Read.j6, if_neg (by decide), if_pos (by omega), if_pos (by omega), if_pos (by omega), if_pos (by omega), hrd, if_pos hv, hwa.out, decide_eq_true (show ((at_ + 1 : Nat) : Int) < (a.size : Int) from by omega),
              domesdayref13_Read.j7, if_pos rfl, hwa.out, if_pos (by omega), if_pos (by omega), if_pos (by omega), Int.toNat_natCast, wrap_id _ (by omega) (by omega), domesdayref13_Read.l2, if_neg (by omega), hw1.out]
          · rw [if_pos (show ((at_ + 1 : Nat) : Int) = (a.size : Int) from by omega), hw1.out]
            have hlx := let_next (m := m) (args := args.drop (i + 1)) (os := os) hat hm hv hq
            by_cases hn : i + 1 < args.length
            · have hd : args.drop (i + 1) = args[i + 1] :: args.drop (i + 2) := List.drop_eq_getElem_cons hn
              have hb : (((i + 1 : Nat) : Int) == (args.length : Int)) = false := beq_eq_false_iff_ne.2 (by omega)
              rw [hb]
              rw [hd] at hlx ⊢
              right
              refine ⟨i + 2, K, _, hlx, by omega, hn, by simp, by omega, ?_⟩
              rw [domesdayref13_Read.j6, if_neg (by decide), if_pos (by omega), if_pos (by omega), if_pos (by omega), if_pos (by omega), hrd, if_pos hv, hwa.out, decide_eq_false (show ¬ ((at_ + 1 : Nat) : Int) < (a.size : Int) from by omega),
                domesdayref13_Read.j7, if_neg (by decide), if_pos (by omega), if_pos (by omega), hrd, if_pos hv, hw1.out, if_pos (by omega), if_pos (by omega), if_pos (by omega), rd_at args (i + 1) hn, hwa.out, domesdayref13_Read.l2, if_neg (by omega), hw2.out]
            · have hd : args.drop (i + 1) = [] := List.drop_eq_nil_of_le (by omega)
              have hb : (((i + 1 : Nat) : Int) == (args.length : Int)) = true := beq_iff_eq.2 (by omega)
              rw [hb]
              rw [hd] at hlx ⊢
              exact .inl ⟨hlx, blame⟩
        · rw [if_neg hv]
          have e : domesdayref13_Read.j6 (K + 1 + 1 + 1) specs args os ps (i : Int) a (at_ : Int) (k : Int) false = domesdayref13_Read.l2 (K + 1) specs args (os ++ [⟨bt a (at_ : Int), ⟨#[]⟩⟩]) ps (i : Int) a ((at_ + 1 : Nat) : Int) := by
            rw [domesdayref13_Read.j6, if_neg (by decide), if_pos (by omega), if_pos (by omega), if_pos (by omega), if_pos (by omega), hrd, if_neg hv,
              domesdayref13_Read.j7, if_neg (by decide), if_pos (by omega), if_pos (by omega), hrd, if_neg hv, if_pos (by omega), hwa.out]
          rw [e, let_plain hat hm hv]
          rcases ih (at_ + 1) (os ++ [⟨bt a (at_ : Int), ⟨#[]⟩⟩]) (K + 1) (by omega) (by omega) (by simp; omega) (by omega) (by simp; omega) with ⟨g1, g2⟩ | ⟨i', K', os', g1, g2, g3, g4, g5, g6⟩
          · exact .inl ⟨g1, g2⟩
          · refine .inr ⟨i', K', os', g1, g2, g3, ?_, by omega, g6⟩
            simp at g4
            omega
      · rw [if_pos (by decide)]
        exact .inl ⟨let_none hat hm, blame⟩
    · obtain ⟨K, rfl⟩ : ∃ j, K = j + 1 := ⟨K - 1, by omega⟩
      right
      refine ⟨i + 1, K, os, let_end hat, Nat.le_refl _, hi, by omega, by omega, ?_⟩
      rw [domesdayref13_Read.l2, if_neg (by omega), hw1.out]
theorem dashes {a : ByteArray} (h : beginsB a ⟨#[45, 45]⟩ = true) : 2 ≤ a.size ∧ bt a 0 = 45 := by
  have h1 := Lib.hasPrefix_le (show Lib.hasPrefix a.data.toList (⟨#[45, 45]⟩ : ByteArray).data.toList = true from h)
  rw [len_list] at h1
  have h1' : 2 ≤ a.size := h1
  refine ⟨h1', ?_⟩
  unfold beginsB Lib.hasPrefix at h
  obtain ⟨r, hr⟩ := List.isPrefixOf_iff_prefix.1 h
  obtain ⟨h2, h3⟩ := bt_list a 0 (by omega)
  rw [← hr] at h2
  have h4 : (45 : UInt8) = a[0]'(by omega) := Option.some.inj h2
  show bt a ((0 : Nat) : Int) = 45
  rw [h3, ← h4]
  rfl
theorem readF_oper_ {specs : List S42} {m : Nat} {a : ByteArray} {rest : List ByteArray} {os : List S36} {ps : List ByteArray} (ha : ¬ a.toList = [45, 45]) (hk : kindOf a = 28) :
    readF specs (m + 1) (a :: rest) os ps = readF specs m rest os (ps ++ [a]) := by
  conv => lhs; unfold readF
  rw [if_neg ha, if_pos hk]
theorem readF_dash_ {specs : List S42} {m : Nat} {a : ByteArray} {rest : List ByteArray} {os : List S36} {ps : List ByteArray} (ha : a.toList = [45, 45]) :
    readF specs (m + 1) (a :: rest) os ps = (os, ps ++ rest, ⟨#[]⟩, 0) := by
  conv => lhs; unfold readF
  rw [if_pos ha]
theorem ref_l0 (specs : List S42) (args : List ByteArray) (hs : specs.length ≤ 30) (hl : args.length ≤ 30) (hb : ∀ j, (h : j < args.length) → args[j].size ≤ 200) : ∀ (n i K : Nat) (os : List S36) (ps : List ByteArray), args.length ≤ i + n → i ≤ args.length → 700 * (args.length - i) + 1 ≤ K → os.length ≤ 300 * i → ps.length ≤ i →
    domesdayref13_Read.l0 K specs args os ps (i : Int) = some (conv (readF specs n (args.drop i) os ps)) := by
  intro n
  induction n with
  | zero =>
    intro i K os ps h1 h2 h3 h4 h5
    obtain ⟨K, rfl⟩ : ∃ j, K = j + 1 := ⟨K - 1, by omega⟩
    rw [domesdayref13_Read.l0, if_neg (by omega)]
    rfl
  | succ n ih =>
    intro i K os ps h1 h2 h3 h4 h5
    by_cases hi : i < args.length
    · have hd : args.drop i = args[i] :: args.drop (i + 1) := List.drop_eq_getElem_cons hi
      have hw1 : Aside0 (wrap64 ((i : Int) + 1) = ((i + 1 : Nat) : Int)) := ⟨by rw [wrap_id _ (by omega) (by omega)]; omega⟩
      have hsz := hb i hi
      have hrd := rd_at args i hi
      obtain ⟨a, ha⟩ : ∃ a, args[i] = a := ⟨_, rfl⟩
      rw [ha] at hd hsz hrd
      obtain ⟨K, rfl⟩ : ∃ j, K = j + 1 + 1 := ⟨K - 2, by omega⟩
      rw [hd]
      have oper : kindOf a = 28 → ¬ a.toList = [45, 45] → domesdayref13_Read.j1 (K + 1) specs args os ps (i : Int) a true = some (conv (readF specs (n + 1) (a :: args.drop (i + 1)) os ps)) := by
        intro hk hn
        rw [readF_oper_ hn hk, domesdayref13_Read.j1, if_pos rfl, if_pos (by omega), hw1.out]
        exact ih (i + 1) K os (ps ++ [a]) (by omega) (by omega) (by omega) (by omega) (by simp; omega)
      rw [domesdayref13_Read.l0, if_pos (show (i : Int) < (args.length : Int) from by omega), if_pos (show (0 : Int) ≤ (i : Int) from by omega), hrd]
      by_cases hdash : a.toList = [45, 45]
      · rw [if_pos hdash, hw1.out, if_pos (by omega), if_pos (by omega), Int.toNat_natCast, if_pos (by rw [List.length_drop]; omega), readF_dash_ hdash]
        rfl
      · rw [if_neg hdash]
        by_cases h2 : a.size < 2
        · rw [if_pos (show (a.size : Int) < 2 from by omega)]
          refine oper ?_ hdash
          unfold kindOf
          rw [if_neg (fun h => by have := dashes h; omega), if_neg (fun h => by omega)]
        · rw [if_neg (show ¬ (a.size : Int) < 2 from by omega), if_pos (show (0 : Int) < (a.size : Int) from by omega)]
          by_cases h0 : bt a 0 = 45
          · rw [h0, show ((45 : Int) != 45) = false from rfl, domesdayref13_Read.j1, if_neg (by decide), begins_f]
            simp only [Option.bind_some]
            by_cases hp : beginsB a ⟨#[45, 45]⟩ = true
            · rw [if_pos hp]
              have hk : kindOf a = 26 := by unfold kindOf; rw [if_pos hp]
              have hT := take_long specs args os ps i a hs hl hi (by omega) hsz (by omega) K (by omega)
              have hF : takeF specs a (args.drop (i + 1)) os = longF specs a (args.drop (i + 1)) os := by unfold takeF; rw [if_pos hk]
              rw [← hF] at hT
              rw [readF_take hdash (by rw [hk]; decide)]
              rcases hT with ⟨g1, g2⟩ | ⟨i', K', os', g1, g2, g3, g4, g5, g6⟩
              · rw [g1, g2]; rfl
              · rw [g1, g6]
                exact ih i' K' os' ps (by omega) g3 (by omega) (by omega) (by omega)
            · rw [if_neg hp]
              have hk : kindOf a = 27 := by unfold kindOf; rw [if_neg hp, if_pos ⟨by omega, h0⟩]
              have hT := take_letters specs args ps i a hs hl hi hsz a.size 1 os K (by omega) (by omega) (by omega) (by omega) (by omega)
              have hF : takeF specs a (args.drop (i + 1)) os = lettersF specs a a.size 1 (args.drop (i + 1)) os := by unfold takeF; rw [if_neg (by rw [hk]; decide)]
              rw [← hF] at hT
              rw [readF_take hdash (by rw [hk]; decide)]
              rw [show ((1 : Nat) : Int) = 1 from rfl] at hT
              rcases hT with ⟨g1, g2⟩ | ⟨i', K', os', g1, g2, g3, g4, g5, g6⟩
              · rw [g1, g2]; rfl
              · rw [g1, g6]
                exact ih i' K' os' ps (by omega) g3 (by omega) (by omega) (by omega)
          · rw [show (bt a 0 != 45) = true from bne_iff_ne.2 h0]
            refine oper ?_ hdash
            unfold kindOf
            rw [if_neg (fun h => h0 (dashes h).2), if_neg (fun h => h0 h.2)]
    · obtain ⟨K, rfl⟩ : ∃ j, K = j + 1 := ⟨K - 1, by omega⟩
      rw [List.drop_eq_nil_of_le (by omega), domesdayref13_Read.l0, if_neg (by omega)]
      rfl
theorem ref_f (specs : List S42) (args : List ByteArray) (hs : specs.length ≤ 30) (hl : args.length ≤ 30) (hb : ∀ j, (h : j < args.length) → args[j].size ≤ 200) (K : Nat) (hK : 21001 ≤ K) :
    domesdayref13_Read.f K specs args = some (conv (readF specs args.length args [] [])) := by
  unfold domesdayref13_Read.f
  have := ref_l0 specs args hs hl hb args.length 0 K [] [] (by omega) (by omega) (by omega) (by simp) (by simp)
  rw [List.drop_zero] at this
  exact this
theorem sameO_at (x : List S36) (hn : x.length ≤ 100000) : ∀ r i K : Nat, i + r = x.length → r + 1 ≤ K → domesdayref13_Same.l0 K x x (i : Int) = some true := by
  intro r
  induction r with
  | zero =>
    intro i K h hK
    obtain ⟨K, rfl⟩ : ∃ j, K = j + 1 := ⟨K - 1, by omega⟩
    rw [domesdayref13_Same.l0, if_neg (by omega)]
  | succ r ih =>
    intro i K h hK
    obtain ⟨K, rfl⟩ : ∃ j, K = j + 1 := ⟨K - 1, by omega⟩
    rw [domesdayref13_Same.l0, if_pos (by omega), if_pos (by omega), if_pos (by omega), if_neg (by simp), wrap_id _ (by omega) (by omega), show (i : Int) + 1 = ((i + 1 : Nat) : Int) from by omega]
    exact ih (i + 1) K (by omega) (by omega)
theorem sameO_refl (x : List S36) (hn : x.length ≤ 100000) (K : Nat) (hK : x.length + 1 ≤ K) : domesdayref13_Same.f K x x = some true := by
  unfold domesdayref13_Same.f
  rw [if_pos rfl]
  exact sameO_at x hn x.length 0 K (by omega) (by omega)
theorem readF_len (specs : List S42) : ∀ (m : Nat) (args : List ByteArray) (os : List S36) (ps : List ByteArray), (∀ a ∈ args, a.size ≤ 1000) → (readF specs m args os ps).1.length ≤ os.length + 1000 * args.length ∧ (readF specs m args os ps).2.1.length ≤ ps.length + args.length
  | 0, args, os, ps, h => ⟨by show os.length ≤ _; omega, by show ps.length ≤ _; omega⟩
  | m + 1, [], os, ps, h => ⟨by show os.length ≤ _; omega, by show ps.length ≤ _; omega⟩
  | m + 1, a :: rest, os, ps, h => by
    have hr : ∀ x ∈ rest, x.size ≤ 1000 := fun x hx => h x (List.mem_cons_of_mem _ hx)
    simp only [List.length_cons]
    by_cases hd : a.toList = [45, 45]
    · rw [readF_dash_ hd]
      simp only [List.length_append]
      omega
    · by_cases hk : kindOf a = 28
      · rw [readF_oper_ hd hk]
        have := readF_len specs m rest os (ps ++ [a]) hr
        simp only [List.length_append, List.length_cons, List.length_nil] at this
        omega
      · rw [readF_take hd hk]
        cases hT : takeF specs a rest os with
        | none =>
          simp only [List.length_nil]
          omega
        | some p =>
          obtain ⟨rest', os'⟩ := p
          obtain ⟨h1, h2⟩ := take_less (h a (by simp)) hT
          have h3 := h1.length_le
          have := readF_len specs m rest' os' ps (fun x hx => hr x (h1.subset hx))
          simp only
          omega
theorem readF_e (specs : List S42) : ∀ (m : Nat) (args : List ByteArray) (os : List S36) (ps : List ByteArray), (readF specs m args os ps).2.2.2 = 0 ∨ (readF specs m args os ps).2.2.2 = 10
  | 0, args, os, ps => .inl rfl
  | m + 1, [], os, ps => .inl rfl
  | m + 1, a :: rest, os, ps => by
    by_cases hd : a.toList = [45, 45]
    · rw [readF_dash_ hd]; exact .inl rfl
    · by_cases hk : kindOf a = 28
      · rw [readF_oper_ hd hk]; exact readF_e specs m rest os _
      · rw [readF_take hd hk]
        cases hT : takeF specs a rest os with
        | none => exact .inr rfl
        | some p => exact readF_e specs m p.1 p.2 ps
theorem OptsReads (l0 : List S42) (l1 : List ByteArray) : ∃ k, domesdaylaw13_OptsReads.f k l0 l1 = some true := by
  refine ⟨200000 + 1 + 1, ?_⟩
  unfold domesdaylaw13_OptsReads.f
  rw [awake]
  simp only [Option.bind_some]
  rw [if_pos trivial]
  obtain ⟨b, hb, hL⟩ := few l0 l1 (200000 + 1 + 1) (by omega)
  rw [hb]
  simp only [Option.bind_some]
  cases b with
  | false => rw [show (!false) = true from rfl, domesdaylaw13_OptsReads.j0, if_pos rfl, awake]; rfl
  | true =>
    obtain ⟨hl, hs, hz⟩ := hL rfl
    have hz' : ∀ a ∈ l1, a.size ≤ 1000 := by
      intro a ha
      obtain ⟨j, hj, rfl⟩ := List.getElem_of_mem ha
      have := hz j hj
      omega
    have hR := read_f (200000 + 1) l0 l1 (by omega) (by omega) hz'
    have hD := ref_f l0 l1 hs hl hz (200000 + 1) (by omega)
    obtain ⟨n1, n2⟩ := readF_len l0 l1.length l1 [] [] hz'
    have he := readF_e l0 l1.length l1 [] []
    rw [show (!true) = false from rfl, domesdaylaw13_OptsReads.j0, if_neg (by decide)]
    simp only [Option.bind_some, List.nil_append, List.length_nil, Nat.zero_add]
    rw [if_pos (by omega), hR]
    simp only [Option.bind_some]
    rw [hD]
    simp only [Option.bind_some]
    generalize readF l0 l1.length l1 [] [] = R at *
    obtain ⟨os, ps, bad, e⟩ := R
    simp only [conv, List.length_nil, Nat.zero_add] at *
    rw [same_refl l1 (by omega) _ (by omega)]
    simp only [Option.bind_some]
    rw [if_pos trivial, sameO_refl os (by omega) _ (by omega)]
    simp only [Option.bind_some]
    rw [if_pos trivial, same_refl ps (by omega) _ (by omega)]
    simp only [Option.bind_some]
    rw [if_pos trivial, domesdaylaw13_OptsReads.j1, if_neg (by simp)]
    rcases he with rfl | rfl <;> rfl
end Go.Proofs.Ytljlhknpfnphnaa.Pure
