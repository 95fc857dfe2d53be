/- P2.1: of all texts the widest one's width is told. No condition. -/
import Derived.Test.YtngcecmfgjgigaaDoorQWidthMost
import Derived.Test.YtngcecmfgjgigaaDoorPureWidthTexts
namespace Go.Proofs.YtngcecmfgjgigaaDoor.PureMost
open Go.RowKit Go.Proofs.YtngcecmfgjgigaaDoor.PureRunes Go.Proofs.YtngcecmfgjgigaaDoor.PureTexts Go.Proofs.YtngcecmfgjgigaaDoor.QWidthTexts Go.Proofs.YtngcecmfgjgigaaDoor.Ext Go.Proofs.YtngcecmfgjgigaaDoorW.PrintWords Go.Proofs.YtngcecmfgjgigaaDoorW.PrintLast Go.Proofs.YtngcecmfgjgigaaDoorW.PrintMore
set_option linter.unusedVariables false

def fo (l : List ByteArray) (a : Int) : Int := l.foldl (fun a s => mx a (ofB s)) a
theorem rd_at (l : List ByteArray) (i : Nat) (h : i < l.length) : rdOf ByteArray.empty l (i : Int) = l[i]'h := by
  unfold rdOf; rw [Int.toNat_natCast, List.getD_eq_getElem?_getD, List.getElem?_eq_getElem h]; rfl
theorem most_l (l : List ByteArray) (hl : l.length ≤ 1000) : ∀ m i k : Nat, ∀ a : Int, l.length - i ≤ m → i ≤ l.length → m < k → width_Most.l0 k a l (l.length : Int) (i : Int) = some (fo (l.drop i) a) := by
  intro m
  induction m with
  | zero =>
    intro i k a h1 h2 hk
    obtain ⟨k, rfl⟩ : ∃ j, k = j + 1 := ⟨k - 1, by omega⟩
    rw [width_Most.l0, if_neg (by omega), List.drop_eq_nil_of_le (by omega)]; rfl
  | succ m ih =>
    intro i k a h1 h2 hk
    by_cases g : i < l.length
    · obtain ⟨k, rfl⟩ : ∃ j, k = j + 1 := ⟨k - 1, by omega⟩
      rw [width_Most.l0, if_pos (by omega), if_pos (by omega), if_pos (by omega), rd_at l i g, of_eq, Option.bind_some, PureRunes.wrap_id _ (by omega) (by omega), show ((i : Int) + 1) = ((i + 1 : Nat) : Int) from by omega, ih (i + 1) k _ (by omega) (by omega) (by omega), List.drop_eq_getElem_cons g]
      rfl
    · exact ih i k a (by omega) h2 (by omega)
theorem law_l (l : List ByteArray) (hl : l.length ≤ 20) : ∀ m i k : Nat, ∀ a : Int, l.length - i ≤ m → i ≤ l.length → m + 300 < k → fo (l.drop i) a = fo l 0 → domesdaylaw02_WidthMost.l0 k l a (i : Int) = some true := by
  intro m
  induction m with
  | zero =>
    intro i k a h1 h2 hk hf
    obtain ⟨k, rfl⟩ : ∃ j, k = j + 1 := ⟨k - 1, by omega⟩
    have hm : width_Most.f k l = some (fo l 0) := by rw [width_Most.f]; exact most_l l (by omega) 20 0 k 0 (by omega) (by omega) (by omega)
    rw [List.drop_eq_nil_of_le (by omega)] at hf
    have hf' : a = fo l 0 := hf
    rw [domesdaylaw02_WidthMost.l0, if_neg (by omega), hm, Option.bind_some, ← hf']; simp
  | succ m ih =>
    intro i k a h1 h2 hk hf
    by_cases g : i < l.length
    · obtain ⟨k, rfl⟩ : ∃ j, k = j + 1 := ⟨k - 1, by omega⟩
      rw [domesdaylaw02_WidthMost.l0, if_pos (by omega), if_pos (by omega), rd_at l i g]
      by_cases c : ((l[i]'g).size : Int) > 100
      · rw [if_pos c]
      · rw [if_neg c, rof_eq _ (by omega) k (by omega), Option.bind_some, PureRunes.wrap_id _ (by omega) (by omega), show ((i : Int) + 1) = ((i + 1 : Nat) : Int) from by omega]
        refine ih (i + 1) k _ (by omega) (by omega) (by omega) ?_
        rw [List.drop_eq_getElem_cons g] at hf
        exact hf
    · exact ih i k a (by omega) h2 (by omega) hf
end Go.Proofs.YtngcecmfgjgigaaDoor.PureMost
namespace Go.Proofs.YtngcecmfgjgigaaDoor.Pure
open Go.RowKit Go.Proofs.YtngcecmfgjgigaaDoor.PureMost Go.Proofs.YtngcecmfgjgigaaDoor.QWidthTexts Go.Proofs.YtngcecmfgjgigaaDoor.Ext
theorem WidthMost (l : List ByteArray) : ∃ k, domesdaylaw02_WidthMost.f k l = some true := by
  refine ⟨1001, ?_⟩
  rw [domesdaylaw02_WidthMost.f, domesdaylaw02_awake.f, Option.bind_some, if_pos rfl, domesdaylaw02_WidthMost.j0]
  by_cases g : (l.length : Int) > 20
  · rw [decide_eq_true g, if_pos rfl, domesdaylaw02_awake.f]; rfl
  · rw [decide_eq_false g, if_neg (by simp)]
    exact law_l l (by omega) 20 0 1000 0 (by omega) (by omega) (by omega) rfl
end Go.Proofs.YtngcecmfgjgigaaDoor.Pure
