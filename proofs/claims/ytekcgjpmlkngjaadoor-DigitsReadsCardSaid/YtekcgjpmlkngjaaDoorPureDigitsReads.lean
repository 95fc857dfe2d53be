/- P1.1: what is read has just the digits that it was read from; plain digits are read. -/
import Derived.Test.YtekcgjpmlkngjaaDoorPureDig
set_option linter.unusedVariables false
set_option linter.unusedSimpArgs false
namespace Go.Proofs.YtekcgjpmlkngjaaDoor.Pure
open Go.RowKit Go.Proofs.YtekcgjpmlkngjaaDoor.QDigitsReads Go.Proofs.YtekcgjpmlkngjaaDoor.Ext Go.Proofs.YtekcgjpmlkngjaaDoorW.PrintWords Go.Proofs.YtekcgjpmlkngjaaDoorW.PrintLast
theorem reads_l0 (s : ByteArray) (hs : s.size ≤ 40) (d : Nat) : ∀ (k i : Nat) (fl : Bool), i + d = s.size → d < k →
    ∃ c : Bool, domesdaylaw01_DigitsReads.l0 k s 0 fl (i : Int) = some (!c) ∧ (c = true → fl = true ∧ ∀ j : Nat, i ≤ j → j < s.size → 48 ≤ bt s j ∧ bt s j ≤ 57) := by
  induction d with
  | zero =>
    intro k i fl hi hk
    obtain ⟨k, rfl⟩ : ∃ m, k = m + 1 := ⟨k - 1, by omega⟩
    refine ⟨fl, ?_, fun h => ⟨h, fun j h1 h2 => by omega⟩⟩
    simp only [domesdaylaw01_DigitsReads.l0]
    rw [if_neg (by omega)]; rfl
  | succ d ih =>
    intro k i fl hi hk
    obtain ⟨k, rfl⟩ : ∃ m, k = m + 1 := ⟨k - 1, by omega⟩
    have hw : wrap64 ((i : Int) + 1) = ((i + 1 : Nat) : Int) := by unfold wrap64; omega
    simp only [domesdaylaw01_DigitsReads.l0]
    rw [if_pos (by omega), hw]
    cases fl with
    | false =>
      obtain ⟨c, h1, h2⟩ := ih k (i + 1) false (by omega) (by omega)
      simp only [Bool.false_eq_true, if_false]
      exact ⟨c, h1, fun h => by have := (h2 h).1; cases this⟩
    | true =>
      simp only [if_true]
      rw [if_pos (by omega)]
      by_cases h48 : bt s i ≥ 48
      · rw [if_pos h48]
        obtain ⟨c, h1, h2⟩ := ih k (i + 1) (decide (bt s i ≤ 57)) (by omega) (by omega)
        refine ⟨c, h1, fun h => ⟨trivial, fun j h3 h4 => ?_⟩⟩
        obtain ⟨h5, h6⟩ := h2 h
        by_cases hj : j = i
        · subst hj; exact ⟨h48, of_decide_eq_true h5⟩
        · exact h6 j (by omega) h4
      · rw [if_neg h48]
        obtain ⟨c, h1, h2⟩ := ih k (i + 1) false (by omega) (by omega)
        exact ⟨c, h1, fun h => by have := (h2 h).1; cases this⟩
/-- Plain digits are read. -/
theorem plain_reads (s : ByteArray) (h0 : 0 < s.size) (h19 : s.size < 19) (h1 : 49 ≤ bt s 0) (hd : ∀ j : Nat, j < s.size → 48 ≤ bt s j ∧ bt s j ≤ 57) : (readF s).2 = true := by
  have hsz : s.data.toList.length = s.size := Array.length_toList
  have hb : ∀ (j : Nat) (h : j < s.data.toList.length), ((s.data.toList[j]).toNat : Int) = bt s j := fun j h => by
    have hj : j < s.size := by omega
    have := bt_at s (j : Int) (by rw [Int.toNat_natCast]; exact hj)
    rw [← this]
    simp [ByteArray.getElem_eq_getElem_data]
  cases hl : s.data.toList with
  | nil =>
    rw [hl] at hsz; simp at hsz; omega
  | cons c r =>
    have hlen : s.size = r.length + 1 := by rw [← hsz, hl]; rfl
    have hb' : ∀ (j : Nat) (h : j < (c :: r).length), (((c :: r)[j]).toNat : Int) = bt s j := by rw [← hl]; exact hb
    have hc : 49 ≤ c.toNat := by have h5 := hb' 0 (Nat.succ_pos _); have h6 : ((c.toNat : Nat) : Int) = bt s ((0 : Nat) : Int) := h5; have h7 : bt s ((0 : Nat) : Int) = bt s 0 := rfl; omega
    have hall : DigB.AllDig (c :: r) := by
      intro x hx
      obtain ⟨j, hj, rfl⟩ := List.getElem_of_mem hx
      have e := hb' j hj
      have hj' : j < s.size := by rw [hlen]; simpa using hj
      have := hd j hj'
      omega
    obtain ⟨v, hp, hi⟩ := DigB.plain_read c r hc hall (by omega)
    unfold readF parsed
    rw [hl, hp]
    simp only
    have : itoaB v = s := by
      unfold itoaB
      rw [hi, ← hl]
    rw [if_pos this]
theorem DigitsReads (s : ByteArray) (h : s.size ≤ maxLen) : ∃ k, domesdaylaw01_DigitsReads.f k s = some true := by
  refine ⟨401, ?_⟩
  obtain ⟨k, hk⟩ : ∃ k, k = 400 := ⟨_, rfl⟩
  rw [show 401 = k + 1 by omega]
  unfold domesdaylaw01_DigitsReads.f
  rw [awake_ev]
  simp only [Option.bind_some, if_true, domesdaylaw01_DigitsReads.j0, decide_eq_true_eq]
  by_cases hs : (s.size : Int) > 40
  · rw [if_pos hs, awake_ev]; rfl
  · rw [if_neg hs]
    unfold digits_Read.f
    rw [if_pos (by omega)]
    simp only [Option.bind_some]
    cases hr : (readF s).2 with
    | true =>
      simp only [if_true]
      -- it was read: its digits are the text's
      have hp : ∃ v, parsed s = some v ∧ itoaB v = s ∧ (readF s).1 = v := by
        unfold readF at hr ⊢
        split at hr
        · rename_i v hv
          by_cases he : itoaB v = s
          · exact ⟨v, hv, he, by rw [if_pos he]⟩
          · rw [if_neg he] at hr; cases hr
        · cases hr
      obtain ⟨v, hv, he, h1⟩ := hp
      obtain ⟨b1, b2, _⟩ := parsed_in hv
      rw [h1, dec_f k (by omega) v ⟨b1, b2⟩, he]
      simp
    | false =>
      have h1 : (readF s).1 = 0 := by
        unfold readF at hr ⊢
        split at hr
        · rename_i v hv
          by_cases he : itoaB v = s
          · rw [if_pos he] at hr; cases hr
          · rw [if_neg he]
        · rfl
      rw [h1]
      simp only [Bool.false_eq_true, if_false]
      have J : ∀ fl : Bool, (fl = true → 0 < s.size ∧ s.size < 19 ∧ 49 ≤ bt s 0) → domesdaylaw01_DigitsReads.j1 k s 0 fl = some true := by
        intro fl hfl
        obtain ⟨k, rfl⟩ : ∃ m, k = m + 1 := ⟨k - 1, by omega⟩
        simp only [domesdaylaw01_DigitsReads.j1]
        obtain ⟨c, h2, h3⟩ := reads_l0 s (by omega) s.size k 0 fl (by omega) (by omega)
        refine Eq.trans (show _ = domesdaylaw01_DigitsReads.l0 k s 0 fl ((0 : Nat) : Int) from rfl) ?_
        rw [h2]
        cases c with
        | false => rfl
        | true =>
          obtain ⟨h4, h5⟩ := h3 rfl
          obtain ⟨g1, g2, g3⟩ := hfl h4
          have := plain_reads s g1 g2 g3 (fun j hj => h5 j (Nat.zero_le _) hj)
          rw [this] at hr; cases hr
      by_cases g0 : (s.size : Int) > 0
      · rw [if_pos g0]
        by_cases g19 : (s.size : Int) < 19
        · rw [if_pos g19, if_pos (by omega)]
          by_cases g49 : bt s 0 ≥ 49
          · rw [if_pos g49]; exact J _ (fun _ => ⟨by omega, by omega, g49⟩)
          · rw [if_neg g49]; exact J _ (fun h => by cases h)
        · rw [if_neg g19]; exact J _ (fun h => by cases h)
      · rw [if_neg g0]; exact J _ (fun h => by cases h)
end Go.Proofs.YtekcgjpmlkngjaaDoor.Pure
