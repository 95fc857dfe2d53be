import Derived.Lib.SplitLaws
import Derived.Lib.CountLaws
import Derived.Lib.CutLaws
import Derived.Lib.IndexBytes
import Derived.Lib.IndexLaws
import Derived.Laws.Strings
-- Texts of this seat, what the claim does not reach struck out by a program.
namespace Go.Proofs.YtcbjkfhflmlniaaDoor.PathMath
open Go Go.Lib
set_option linter.unusedVariables false
set_option linter.unusedSimpArgs false
def nm : List UInt8 → List UInt8 → List (List UInt8)
 | cur, [] => if cur = [] then [] else [cur]
 | cur, c :: cs => if c = 47 then (if cur = [] then nm [] cs else cur :: nm [] cs) else nm (cur ++ [c]) cs
theorem nm_pre : ∀ (pre cur rest : List UInt8), (∀ c ∈ pre, c ≠ 47) → nm cur (pre ++ rest) = nm (cur ++ pre) rest
 | [], cur, rest, _ => by simp
 | c :: pre, cur, rest, h => by
  rw [List.cons_append, nm, if_neg (h c (by simp)), nm_pre pre (cur ++ [c]) rest (fun d hd => h d (by simp [hd])), List.append_assoc]
  rfl
def full (x : ByteArray) : Bool := !x.toList.isEmpty
theorem full_eq (x : ByteArray) : full x = !x.data.toList.isEmpty := by unfold full; rw [ByteArray.toList_eq]
theorem none_of (l : List UInt8) (h : indexByte l 47 = -1) : ∀ c ∈ l, c ≠ 47 := by
 intro c hc e
 subst e
 obtain ⟨k, hk⟩ := List.mem_iff_getElem?.1 hc
 exact indexByte_none h k hk
theorem split_nm : ∀ (k : Nat) (s : ByteArray), countB s ⟨#[47]⟩ = k → ((splitB ⟨#[47]⟩ 0 k s).filter full).map (·.data.toList) = nm [] s.data.toList
 | 0, s, h => by
  have hi : indexByte s.data.toList 47 = -1 := by
   rcases indexB_cases s ⟨#[47]⟩ with hm | ⟨i, hix, _⟩
   ·exact (index_one s.data.toList 47).symm.trans hm
   ·have := countB_hit s ⟨#[47]⟩ i (by decide) hix; omega
  have e := nm_pre s.data.toList [] [] (none_of _ hi)
  rw [List.append_nil, List.nil_append] at e
  rw [e, splitB_zero, nm]
  by_cases g : s.data.toList = []
  ·rw [if_pos g, List.filter_cons, if_neg (by rw [full_eq, g]; simp)]; rfl
  ·rw [if_neg g, List.filter_cons, if_pos (by rw [full_eq]; simpa using g)]; rfl
 | k + 1, s, h => by
  rcases indexB_cases s ⟨#[47]⟩ with hm | ⟨i, hix, hle⟩
  ·rw [countB_miss s _ hm] at h; omega
  ·have hc := countB_hit s ⟨#[47]⟩ i (by decide) hix
   have ih := split_nm k (s.extract (i + 1) s.size) (by have e : (⟨#[47]⟩ : ByteArray).size = 1 := rfl; rw [e] at hc; omega)
   have hb : indexByte s.data.toList 47 = i := (index_one s.data.toList 47).symm.trans hix
   obtain ⟨h1, h2⟩ := indexByte_some hb
   have hlt : i < s.data.toList.length := by
    rcases Nat.lt_or_ge i s.data.toList.length with g | g
    ·exact g
    ·rw [List.getElem?_eq_none g] at h1; cases h1
   have hget : s.data.toList[i]'hlt = 47 := by rw [List.getElem?_eq_getElem hlt] at h1; exact Option.some.inj h1
   have hL : s.data.toList = s.data.toList.take i ++ 47 :: s.data.toList.drop (i + 1) := by
    have := List.take_append_drop i s.data.toList
    rw [List.drop_eq_getElem_cons hlt, hget] at this
    exact this.symm
   have hd : (s.extract (i + 1) s.size).data.toList = s.data.toList.drop (i + 1) := by
    have hsz : s.data.toList.length = s.size := by rw [Array.length_toList]; rfl
    rw [ByteArray.data_extract, Array.toList_extract, List.extract_eq_take_drop, ← hsz, ← List.length_drop, List.take_length]
   have ht : (s.extract 0 (i + 0)).data.toList = s.data.toList.take i := by
    rw [ByteArray.data_extract, Array.toList_extract, List.extract_eq_take_drop]; simp
   have hpre : ∀ c ∈ s.data.toList.take i, c ≠ 47 := by
    intro c hc e
    subst e
    obtain ⟨j, hj⟩ := List.mem_iff_getElem?.1 hc
    rw [List.getElem?_take] at hj
    split at hj
    ·next g => exact h2 j g hj
    ·cases hj
   rw [hd] at ih
   have e1 : (⟨#[47]⟩ : ByteArray).size = 1 := rfl
   have en : nm [] s.data.toList = nm [] (s.data.toList.take i ++ 47 :: s.data.toList.drop (i + 1)) := congrArg (nm []) hL
   rw [en, splitB_hit _ _ _ _ i hix, e1, nm_pre _ _ _ hpre, List.nil_append, nm, if_pos rfl, ← ih]
   by_cases g : s.data.toList.take i = []
   ·rw [if_pos g, List.filter_cons, if_neg (by rw [full_eq, ht, g]; simp)]
   ·rw [if_neg g, List.filter_cons, if_pos (by rw [full_eq, ht]; simpa using g), List.map_cons, ht]
end Go.Proofs.YtcbjkfhflmlniaaDoor.PathMath
