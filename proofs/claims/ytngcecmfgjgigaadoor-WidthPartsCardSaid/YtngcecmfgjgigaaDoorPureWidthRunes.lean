/- P2.1: of all numbers the width is the chapter's. No condition. -/
import Derived.Test.YtngcecmfgjgigaaDoorQWidthRunesx2
import Derived.OpenShut
namespace Go.Proofs.YtngcecmfgjgigaaDoor.PureRunes
open Go.RowKit Go.Proofs.YtngcecmfgjgigaaDoor.WMath Go.Proofs.YtngcecmfgjgigaaDoor.QWidthRunes Go.Proofs.YtngcecmfgjgigaaDoor.Ext Go.Proofs.YtngcecmfgjgigaaDoorW.PrintWords Go.Proofs.YtngcecmfgjgigaaDoorW.PrintLast Go.Proofs.YtngcecmfgjgigaaDoorW.PrintMore
set_option linter.unusedVariables false
set_option linter.unusedSimpArgs false

theorem wrap_id (x : Int) (h : -9223372036854775808 ≤ x) (h' : x ≤ 9223372036854775807) : wrap64 x = x := by unfold wrap64; omega
def isin (l : List S40) (r : Int) : Bool := l.any fun s => decide (s.f0 ≤ r ∧ r ≤ s.f1)
theorem wl_in (v : Int) : ∀ (l : List S40) (r e : Int), (if isin l r = true then v else e) = wl v l r e
  | [], r, e => by simp [isin, wl]
  | s :: l, r, e => by
    rw [wl, ← wl_in v l r e]
    unfold isin
    rw [List.any_cons]
    by_cases c : s.f0 ≤ r ∧ r ≤ s.f1
    · rw [decide_eq_true c, if_pos c]; simp
    · rw [decide_eq_false c, if_neg c]; simp
theorem in_l (r : Int) (l : List S40) (hl : l.length ≤ 1000) : ∀ m i k : Nat, l.length - i ≤ m → i ≤ l.length → m < k → width_in.l0 k r l (l.length : Int) (i : Int) = some (isin (l.drop i) r) := by
  intro m
  induction m with
  | zero =>
    intro i k h1 h2 hk
    obtain ⟨k, rfl⟩ : ∃ j, k = j + 1 := ⟨k - 1, by omega⟩
    rw [width_in.l0, if_neg (by omega), List.drop_eq_nil_of_le (by omega)]; rfl
  | succ m ih =>
    intro i k h1 h2 hk
    by_cases g : i < l.length
    · obtain ⟨k, rfl⟩ : ∃ j, k = j + 1 := ⟨k - 1, by omega⟩
      have e : rd_T40 l (i : Int) = l[i]'g := by unfold rd_T40; rw [Int.toNat_natCast, List.getD_eq_getElem?_getD, List.getElem?_eq_getElem g]; rfl
      rw [width_in.l0, if_pos (by omega), if_pos (by omega), if_pos (by omega), e, List.drop_eq_getElem_cons g, wrap_id _ (by omega) (by omega), show ((i : Int) + 1) = ((i + 1 : Nat) : Int) from by omega, ih (i + 1) k (by omega) (by omega) (by omega)]
      unfold isin
      rw [List.any_cons]
      by_cases c1 : r ≥ (l[i]'g).f0
      · rw [if_pos c1]
        by_cases c2 : r ≤ (l[i]'g).f1
        · rw [if_pos c2, decide_eq_true ⟨c1, c2⟩, Bool.true_or]
        · rw [if_neg c2, decide_eq_false (fun h => c2 h.2), Bool.false_or]
      · rw [if_neg c1, decide_eq_false (fun h => c1 h.1), Bool.false_or]
    · exact ih i k (by omega) h2 (by omega)
theorem in_eq (r : Int) (l : List S40) (hl : l.length ≤ 50) (k : Nat) (hk : 60 ≤ k) : width_in.f k r l = some (isin l r) := by
  have := in_l r l (by omega) 50 0 k (by omega) (by omega) (by omega)
  rw [width_in.f]; exact this
theorem rune_eq (r : Int) (k : Nat) (hk : 60 ≤ k) : width_Rune.f k r = some (wd r) := by
  have e1 : width_none.f = some NN := rfl
  have e2 : width_wide.f = some WW := rfl
  rw [width_Rune.f, e1, Option.bind_some, in_eq r NN (by decide) k hk, Option.bind_some, e2, Option.bind_some, in_eq r WW (by decide) k hk, Option.bind_some]
  unfold wd
  rw [← wl_in 2 WW r 1, ← wl_in 0 NN r]
  split
  · rfl
  · split <;> rfl
theorem ref_eq (r : Int) : domesdayref02_Width.f r = some (wd r) := rfl
end Go.Proofs.YtngcecmfgjgigaaDoor.PureRunes
namespace Go.Proofs.YtngcecmfgjgigaaDoor.Pure
open Go.RowKit Go.Proofs.YtngcecmfgjgigaaDoor.PureRunes Go.Proofs.YtngcecmfgjgigaaDoor.QWidthRunes Go.Proofs.YtngcecmfgjgigaaDoor.Ext
theorem WidthRunes (r : Int) (h : (Lit.int .i32 r).wf = true) : ∃ k, domesdaylaw02_WidthRunes.f k r = some true := by
  have hx : -2147483648 ≤ r ∧ r ≤ 2147483647 := by simpa [Lit.wf, IntKind.min, IntKind.max, IntKind.signed, IntKind.bits] using h
  refine ⟨100, ?_⟩
  rw [domesdaylaw02_WidthRunes.f, domesdaylaw02_awake.f, Option.bind_some, if_pos rfl, rune_eq r 100 (by omega), Option.bind_some, PureRunes.wrap_id r (by omega) (by omega), ref_eq r, Option.bind_some]
  simp
end Go.Proofs.YtngcecmfgjgigaaDoor.Pure
