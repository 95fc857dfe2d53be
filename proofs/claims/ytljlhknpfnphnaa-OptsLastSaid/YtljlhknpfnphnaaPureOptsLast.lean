/- P13.2: the last option of some letters is told, and whether there is one (60 options). -/
import Derived.Test.YtljlhknpfnphnaaPureOptBase
import Derived.Test.YtljlhknpfnphnaaQLast
namespace Go.Proofs.Ytljlhknpfnphnaa.Pure
open Go.RowKit Go.Proofs.Ytljlhknpfnphnaa.QOpts Go.Proofs.YtljlhknpfnphnaaW.PrintWords Go.Proofs.YtljlhknpfnphnaaW.PrintLast Go.Proofs.YtljlhknpfnphnaaW.PrintMore
set_option linter.unusedVariables false
set_option linter.unusedSimpArgs false

theorem bt_list (s : ByteArray) (c : Nat) (h : c < s.size) (h' : c < s.data.toList.length) : bt s (c : Int) = ((s.data.toList[c]'h').toNat : Int) := by
  have hs : (c : Int).toNat < s.size := by simpa using h
  rw [← bt_at s (c : Int) hs]
  rfl
theorem len_list (s : ByteArray) : s.data.toList.length = s.size := by rw [Array.length_toList]; rfl
theorem among_iff (s : ByteArray) (x : S36) (h0 : 0 ≤ x.f0) (h1 : x.f0 ≤ 255) : amongP s x = s.data.toList.any fun b => x.f0 == (b.toNat : Int) := by
  have hb : ∀ b : UInt8, (x.f0 == (b.toNat : Int)) = (x.f0.toNat.toUInt8 == b) := by
    intro b
    rw [Bool.eq_iff_iff, beq_iff_eq, beq_iff_eq]
    have hn : x.f0.toNat < 256 := by omega
    have ht : (x.f0.toNat.toUInt8).toNat = x.f0.toNat := by simp [Nat.mod_eq_of_lt hn]
    constructor
    · intro h
      apply UInt8.toNat_inj.1
      omega
    · intro h
      subst h
      omega
  simp only [hb]
  unfold amongP
  rw [Bool.eq_iff_iff, decide_eq_true_iff, List.any_eq_true]
  constructor
  · intro h
    obtain ⟨o, ho⟩ : ∃ o : Nat, Lib.indexByte s.data.toList x.f0.toNat.toUInt8 = (o : Int) := ⟨_, (Int.toNat_of_nonneg h).symm⟩
    have := (Lib.indexByte_some ho).1
    exact ⟨_, List.mem_of_getElem? this, beq_self_eq_true _⟩
  · rintro ⟨b, hb1, hb2⟩
    have e := eq_of_beq hb2
    subst e
    by_cases hn : Lib.indexByte s.data.toList x.f0.toNat.toUInt8 = -1
    · obtain ⟨k, hk⟩ := List.getElem?_of_mem hb1
      exact absurd hk (Lib.indexByte_none hn k)
    · have := Lib.indexByte_ge s.data.toList x.f0.toNat.toUInt8
      omega
theorem last_take (l : List S36) (s : ByteArray) (i : Nat) (hi : i < l.length) : lastF (l.take (i + 1)) s = if amongP s l[i] = true then (l[i].f0, l[i].f1, true) else lastF (l.take i) s := by
  unfold lastF
  rw [List.take_succ_eq_append_getElem hi, List.reverse_append]
  show (match List.find? (amongP s) (l[i] :: (l.take i).reverse) with | some x => (x.f0, x.f1, true) | none => (0, ⟨#[]⟩, false)) = _
  by_cases h : amongP s l[i] = true
  · rw [if_pos h, List.find?_cons_of_pos h]
  · rw [if_neg h, List.find?_cons_of_neg h]
    rfl
theorem last_any (l : List S36) (s : ByteArray) : (lastF l s).2.2 = l.any (amongP s) := by
  unfold lastF
  cases h : l.reverse.find? (amongP s) with
  | none =>
    rw [List.find?_eq_none] at h
    symm
    show l.any (amongP s) = false
    rw [List.any_eq_false]
    intro x hx
    exact h x (List.mem_reverse.2 hx)
  | some x =>
    symm
    show l.any (amongP s) = true
    rw [List.any_eq_true]
    exact ⟨x, List.mem_reverse.1 (List.mem_of_find?_eq_some h), List.find?_some h⟩
theorem last_l1 (l : List S36) (s : ByteArray) (hs : s.size ≤ 60) (i : Nat) (hi : i < l.length) (hl : l.length ≤ 60) : ∀ r c K ok w0 w1, c + r = s.size →
    domesdaylaw13_OptsLast.l1 (K + r + 1) l s ok (i : Int) (c : Int) w0 w1 = if ((s.data.toList.drop c).any fun b => l[i].f0 == (b.toNat : Int)) = true then domesdaylaw13_OptsLast.l0 K l s true ((i + 1 : Nat) : Int) l[i].f0 l[i].f1 else domesdaylaw13_OptsLast.l0 K l s ok ((i + 1 : Nat) : Int) w0 w1 := by
  have e : rd_T36 l (i : Int) = l[i] := by unfold rd_T36; simp [hi]
  intro r
  induction r with
  | zero =>
    intro c K ok w0 w1 h
    rw [domesdaylaw13_OptsLast.l1, if_neg (by omega), List.drop_eq_nil_of_le (by rw [len_list]; omega), wrap_id _ (by omega) (by omega), show (i : Int) + 1 = ((i + 1 : Nat) : Int) from by omega]
    rfl
  | succ r ih =>
    intro c K ok w0 w1 h
    have hc : c < s.data.toList.length := by rw [len_list]; omega
    rw [show K + (r + 1) + 1 = (K + r + 1) + 1 from by omega, domesdaylaw13_OptsLast.l1, if_pos (by omega), if_pos (by omega), if_pos (by omega), if_pos (by omega), e, bt_list s c (by omega) hc, wrap_id _ (by omega) (by omega), show (c : Int) + 1 = ((c + 1 : Nat) : Int) from by omega, List.drop_eq_getElem_cons hc, List.any_cons]
    by_cases hb : l[i].f0 = ((s.data.toList[c]'hc).toNat : Int)
    · rw [if_pos hb, ih (c + 1) K true _ _ (by omega)]
      have : (l[i].f0 == ((s.data.toList[c]'hc).toNat : Int)) = true := beq_iff_eq.2 hb
      rw [this, Bool.true_or, if_pos rfl]
      split <;> rfl
    · rw [if_neg hb, ih (c + 1) K ok _ _ (by omega)]
      have : (l[i].f0 == ((s.data.toList[c]'hc).toNat : Int)) = false := beq_eq_false_iff_ne.2 hb
      rw [this, Bool.false_or]
theorem any_mem {α : Type} {p q : α → Bool} : ∀ {l : List α}, (∀ x ∈ l, p x = q x) → l.any p = l.any q
  | [], _ => rfl
  | x :: l, h => by rw [List.any_cons, List.any_cons, h x (by simp), any_mem (fun y hy => h y (by simp [hy]))]
theorem last_l0 (l : List S36) (s : ByteArray) (hs : s.size ≤ 60) (hl : l.length ≤ 60) (hr : ∀ x ∈ l, 0 ≤ x.f0 ∧ x.f0 ≤ 255) : ∀ r i K ok w0 w1, i + r = l.length → r * 62 + 1 ≤ K → (w0, w1, ok) = lastF (l.take i) s → domesdaylaw13_OptsLast.l0 K l s ok (i : Int) w0 w1 = some true := by
  intro r
  induction r with
  | zero =>
    intro i K ok w0 w1 h hK hv
    obtain ⟨K, rfl⟩ : ∃ j, K = j + 1 := ⟨K - 1, by omega⟩
    rw [List.take_of_length_le (by omega)] at hv
    have ha := last_any l s
    rw [domesdaylaw13_OptsLast.l0, if_neg (by omega), show opts_Last.f K l s = some (w0, w1, ok) from by rw [hv]; unfold opts_Last.f; rw [if_pos (by omega)]]
    simp only [Option.bind_some]
    have hz : (if (w0 == w0 && (w1.toList == w1.toList)) = true then (some (ok == ok)) else none) = some true := by simp
    by_cases h1 : (s.size : Int) = 1
    · rw [if_pos h1, if_pos (by omega)]
      have hh : opts_Has.f K l (bt s 0) = some ok := by
        rw [← hv] at ha
        show some (l.any (optP (bt s 0))) = some ok
        have e : l.any (optP (bt s 0)) = l.any (amongP s) := by
          apply any_mem
          intro x hx
          rw [among_iff s x (hr x hx).1 (hr x hx).2]
          unfold optP
          have h3 : s.data.toList.length = 1 := by rw [len_list]; omega
          obtain ⟨b, hb⟩ := List.length_eq_one_iff.1 h3
          have h4 := bt_list s 0 (by omega) (by omega)
          simp only [hb] at h4
          rw [hb, show bt s 0 = (b.toNat : Int) from h4]
          simp
        rw [e, ← ha]
      rw [hh]
      simp only [Option.bind_some]
      rw [if_neg (by simp)]
      exact hz
    · rw [if_neg h1]
      exact hz
  | succ r ih =>
    intro i K ok w0 w1 h hK hv
    have hi : i < l.length := by omega
    obtain ⟨K, rfl⟩ : ∃ j, K = (j + s.size + 1) + 1 := ⟨K - s.size - 2, by omega⟩
    rw [domesdaylaw13_OptsLast.l0, if_pos (by omega)]
    have h1 := last_l1 l s hs i hi hl s.size 0 K ok w0 w1 (by omega)
    rw [List.drop_zero] at h1
    rw [show (0 : Int) = ((0 : Nat) : Int) from rfl, h1]
    have ht := last_take l s i hi
    have hx := hr l[i] (List.getElem_mem hi)
    rw [among_iff s l[i] hx.1 hx.2] at ht
    split
    · rename_i hc
      rw [if_pos hc] at ht
      exact ih (i + 1) K _ _ _ (by omega) (by omega) ht.symm
    · rename_i hc
      rw [if_neg hc] at ht
      exact ih (i + 1) K _ _ _ (by omega) (by omega) (hv.trans ht.symm)
theorem u8_range {n : Int} (h : (Lit.int .u8 n).wf = true) : 0 ≤ n ∧ n ≤ 255 := by
  simp [Lit.wf, IntKind.min, IntKind.max, IntKind.signed, IntKind.bits] at h
  omega
theorem OptsLast (l0 : List S36) (a1 : ByteArray) (hq : ∀ x ∈ l0, ((Lit.int .u8 x.f0).wf = true) ∧ (x.f1.size ≤ maxLen)) (_hs : a1.size ≤ maxLen) : ∃ k, domesdaylaw13_OptsLast.f k l0 a1 = some true := by
  refine ⟨5001, ?_⟩
  unfold domesdaylaw13_OptsLast.f
  rw [awake]
  simp only [Option.bind_some]
  rw [if_pos trivial]
  have hj : domesdaylaw13_OptsLast.j0 5001 l0 a1 true = some true := by
    rw [domesdaylaw13_OptsLast.j0, if_pos rfl, awake]
    rfl
  by_cases h1 : (l0.length : Int) > 60
  · rw [if_pos h1]; exact hj
  · rw [if_neg h1]
    by_cases h2 : (a1.size : Int) > 60
    · rw [decide_eq_true h2]; exact hj
    · rw [decide_eq_false h2, domesdaylaw13_OptsLast.j0, if_neg (by decide)]
      exact last_l0 l0 a1 (by omega) (by omega) (fun x hx => u8_range (hq x hx).1) l0.length 0 5000 false 0 ⟨#[]⟩ (by omega) (by omega) rfl
end Go.Proofs.Ytljlhknpfnphnaa.Pure
