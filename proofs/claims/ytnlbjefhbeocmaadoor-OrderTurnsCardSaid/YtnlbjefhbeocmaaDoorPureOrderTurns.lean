/- P10.2: of keys of different names, without directories first, reverse turns the order about (40 keys). No condition. -/
import Derived.Test.YtnlbjefhbeocmaaDoorPureSort
import Derived.Test.YtnlbjefhbeocmaaDoorQOrderTurns
namespace Go.Proofs.YtnlbjefhbeocmaaDoor.Pure
open Go.RowKit Go.Proofs.YtnlbjefhbeocmaaDoor.QOrderCompares Go.Proofs.YtnlbjefhbeocmaaDoor.SortMath Go.Proofs.YtnlbjefhbeocmaaDoor.Ext Go.Proofs.YtnlbjefhbeocmaaDoorW.PrintWords Go.Proofs.YtnlbjefhbeocmaaDoorW.PrintLast Go.Proofs.YtnlbjefhbeocmaaDoorW.PrintMore
set_option linter.unusedVariables false
set_option linter.unusedSimpArgs false

theorem toList_inj (s t : ByteArray) (h : s.toList = t.toList) : s = t := by
  rw [ByteArray.toList_eq, ByteArray.toList_eq] at h
  exact L_inj _ _ h
/-- Places with different names. -/
def apart (l : List S23) (i j : Nat) : Prop := (rd_T23 l (i : Int)).f0 ≠ (rd_T23 l (j : Int)).f0
theorem turn_l1 (o : Int) (l : List S23) (h40 : l.length ≤ 40) (i : Nat) (hi : i < l.length) : ∀ m c K : Nat, c + m = i →
    domesdaylaw10_OrderTurns.l1 (K + m + 1) o l (i : Int) (c : Int) = some true ∨ (domesdaylaw10_OrderTurns.l1 (K + m + 1) o l (i : Int) (c : Int) = domesdaylaw10_OrderTurns.l0 K o l ((i + 1 : Nat) : Int) ∧ ∀ j, c ≤ j → j < i → apart l i j) := by
  intro m
  induction m with
  | zero =>
    intro c K hc
    right
    rw [domesdaylaw10_OrderTurns.l1, if_neg (by omega), wrap_id ((i : Int) + 1) (by omega) (by omega)]
    exact ⟨rfl, fun j h1 h2 => by omega⟩
  | succ m ih =>
    intro c K hc
    rw [show K + (m + 1) + 1 = (K + m + 1) + 1 from by omega, domesdaylaw10_OrderTurns.l1, if_pos (by omega), if_pos (by omega), if_pos (by omega), if_pos (by omega), if_pos (by omega)]
    by_cases e : ((rd_T23 l (i : Int)).f0).toList = ((rd_T23 l (c : Int)).f0).toList
    · left; rw [if_pos e]
    · rw [if_neg e, wrap_id ((c : Int) + 1) (by omega) (by omega), show (c : Int) + 1 = ((c + 1 : Nat) : Int) from by omega]
      rcases ih (c + 1) K (by omega) with h | ⟨h, hp⟩
      · exact .inl h
      · refine .inr ⟨h, fun j h1 h2 => ?_⟩
        rcases Nat.eq_or_lt_of_le h1 with rfl | h3
        · exact fun he => e (by rw [he])
        · exact hp j h3 h2
def tail (K : Nat) (o : Int) (l : List S23) : Option Bool := (order_Sort.f K o false false l).bind fun t142 => ((order_Sort.f K o true false l).bind fun t145 => (if (t142.length : Int) = (l.length : Int) then (domesdaylaw10_OrderTurns.j3 K t142 t145 ((t145.length : Int) != (l.length : Int))) else (domesdaylaw10_OrderTurns.j3 K t142 t145 true)))
theorem turn_l0 (o : Int) (l : List S23) (h40 : l.length ≤ 40) (B : Nat) : ∀ r i K : Nat, i + r = l.length → B + r * 42 + 1 ≤ K →
    domesdaylaw10_OrderTurns.l0 K o l (i : Int) = some true ∨ ∃ K', B ≤ K' ∧ domesdaylaw10_OrderTurns.l0 K o l (i : Int) = tail K' o l ∧ ∀ a b, i ≤ a → a < l.length → b < a → apart l a b := by
  intro r
  induction r with
  | zero =>
    intro i K hi hK
    obtain ⟨K, rfl⟩ : ∃ j, K = j + 1 := ⟨K - 1, by omega⟩
    right
    refine ⟨K, by omega, ?_, fun a b h1 h2 => by omega⟩
    rw [domesdaylaw10_OrderTurns.l0, if_neg (by omega)]
    rfl
  | succ r ih =>
    intro i K hi hK
    obtain ⟨K, rfl⟩ : ∃ j, K = (j + i + 1) + 1 := ⟨K - i - 2, by omega⟩
    rw [domesdaylaw10_OrderTurns.l0, if_pos (by omega)]
    rcases turn_l1 o l h40 i (by omega) i 0 K (by omega) with h | ⟨h, hp⟩
    · exact .inl h
    · have h' : domesdaylaw10_OrderTurns.l1 (K + i + 1) o l (i : Int) 0 = domesdaylaw10_OrderTurns.l0 K o l ((i + 1 : Nat) : Int) := h
      rw [h']
      rcases ih (i + 1) K (by omega) (by omega) with h2 | ⟨K', hB, h2, hq⟩
      · exact .inl h2
      · refine .inr ⟨K', hB, h2, fun a b h3 h4 h5 => ?_⟩
        rcases Nat.eq_or_lt_of_le h3 with rfl | h6
        · exact hp b (by omega) h5
        · exact hq a b h6 h4 h5
theorem rd_getD (x : List Int) (i : Nat) (h : i < x.length) : rd x (i : Int) = x[i] := by
  unfold rd
  simp [h]
theorem turn_l2 (p q : List Int) (hq : q = p.reverse) (h40 : p.length ≤ 1000) : ∀ m i k : Nat, p.length - i ≤ m → i ≤ p.length → m < k → domesdaylaw10_OrderTurns.l2 k p q (i : Int) = some true := by
  have hl : q.length = p.length := by rw [hq, List.length_reverse]
  intro m
  induction m with
  | zero =>
    intro i k h1 h2 hk
    obtain ⟨k, rfl⟩ : ∃ j, k = j + 1 := ⟨k - 1, by omega⟩
    rw [domesdaylaw10_OrderTurns.l2, if_neg (by omega)]
  | succ m ih =>
    intro i k h1 h2 hk
    obtain ⟨k, rfl⟩ : ∃ j, k = j + 1 := ⟨k - 1, by omega⟩
    rw [domesdaylaw10_OrderTurns.l2]
    by_cases c : (i : Int) < (p.length : Int)
    · have e : wrap64 ((wrap64 ((q.length : Int) - 1)) - (i : Int)) = ((p.length - 1 - i : Nat) : Int) := by
        rw [wrap_id ((q.length : Int) - 1) (by omega) (by omega), wrap_id _ (by omega) (by omega)]
        omega
      rw [if_pos c, if_pos (by omega), e, if_pos (by omega), if_pos (by omega), rd_getD p i (by omega), rd_getD q _ (by omega)]
      have hg : p[i]'(by omega) = q[p.length - 1 - i]'(by omega) := by
        subst hq
        rw [List.getElem_reverse]
        congr 1
        omega
      rw [if_pos hg, wrap_id ((i : Int) + 1) (by omega) (by omega), show (i : Int) + 1 = ((i + 1 : Nat) : Int) from by omega]
      exact ih (i + 1) k (by omega) (by omega) (by omega)
    · rw [if_neg c]
theorem turned (o : Int) (l : List S23) (h : ∀ a b, a < l.length → b < a → apart l a b) : sorted o true false l = (sorted o false false l).reverse := by
  have g := ord_pl o false false l
  have e : (sorted o true false l).reverse = sorted o false false l := by
    refine sorted_unique g ?_ (sorted_sorted o false false l) ((List.reverse_perm _).trans ((sorted_perm o true false l).trans (sorted_perm o false false l).symm))
    show List.Pairwise _ _
    rw [List.pairwise_reverse]
    refine List.Pairwise.imp_of_mem ?_ (sorted_sorted o true false l)
    intro i j hi hj hlt
    have mi := (mem_rng _ _ _).1 ((sorted_perm o true false l).mem_iff.1 hi)
    have mj := (mem_rng _ _ _).1 ((sorted_perm o true false l).mem_iff.1 hj)
    have hne : i ≠ j := by
      rintro rfl
      rw [(ord_pl o true false l).irrefl] at hlt
      cases hlt
    have ei : ((i.toNat : Nat) : Int) = i := by omega
    have ej : ((j.toNat : Nat) : Int) = j := by omega
    have hap : (rd_T23 l i).f0 ≠ (rd_T23 l j).f0 := by
      rcases Nat.lt_or_ge i.toNat j.toNat with h1 | h1
      · have := h j.toNat i.toNat (by omega) h1
        unfold apart at this
        rw [ei, ej] at this
        exact fun he => this he.symm
      · have := h i.toNat j.toNat (by omega) (by omega)
        unfold apart at this
        rw [ei, ej] at this
        exact this
    have ep : pl o true false l i j = keyC o (rd_T23 l j).f0 (rd_T23 l i).f0 (rd_T23 l j).f1 (rd_T23 l j).f2 (rd_T23 l i).f1 (rd_T23 l i).f2 := by simp [pl, wh, bas]
    have eq : pl o false false l j i = keyC o (rd_T23 l j).f0 (rd_T23 l i).f0 (rd_T23 l j).f1 (rd_T23 l j).f2 (rd_T23 l i).f1 (rd_T23 l i).f2 := by simp [pl, wh, bas]
    rw [lt_iff, ep] at hlt
    rw [lt_iff, eq]
    rcases hlt with h1 | ⟨h1, _⟩
    · exact .inl h1
    · exact absurd ((key_zero _ _ _ _ _ _ _).1 h1).1 (fun he => hap he.symm)
  rw [← e, List.reverse_reverse]
theorem OrderTurns (o : Int) (l : List S23) : ∃ k, domesdaylaw10_OrderTurns.f k o l = some true := by
  refine ⟨400000 + 1, ?_⟩
  obtain ⟨b, hb, hp⟩ := few_eq l (400000 + 1) (by omega)
  rw [domesdaylaw10_OrderTurns.f, awake_eq _ (by omega), Option.bind_some, if_pos rfl, hb, Option.bind_some, domesdaylaw10_OrderTurns.j0]
  cases b with
  | false => rw [if_pos (by decide), awake_eq _ (by omega)]; rfl
  | true =>
    have hl := hp rfl
    have h40 := hl.1
    rw [if_neg (by simp)]
    rcases turn_l0 o l h40 320000 l.length 0 400000 (by omega) (by omega) with h | ⟨K', hB, h, hq⟩
    · exact h
    · refine h.trans ?_
      obtain ⟨K, rfl⟩ : ∃ j, K' = j + 1 := ⟨K' - 1, by omega⟩
      have hlen := sorted_len o false false l
      have hlen2 := sorted_len o true false l
      rw [tail, sort_eq o false false l hl _ (by omega), Option.bind_some, sort_eq o true false l hl _ (by omega), Option.bind_some, if_pos (by omega), hlen2, domesdaylaw10_OrderTurns.j3, if_neg (by simp)]
      exact turn_l2 _ _ (turned o l (fun a b h1 h2 => hq a b (by omega) h1 h2)) (by omega) 100 0 K (by omega) (by omega) (by omega)
end Go.Proofs.YtnlbjefhbeocmaaDoor.Pure
