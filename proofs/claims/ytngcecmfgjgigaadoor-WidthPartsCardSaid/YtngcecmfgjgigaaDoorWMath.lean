/- A character's width, by its two tables. -/
import Derived.Test.YtngcecmfgjgigaaDoorQWidthRunesx0
namespace Go.Proofs.YtngcecmfgjgigaaDoor.WMath
open Go.Proofs.YtngcecmfgjgigaaDoor.QWidthRunes
def NN : List S40 := [⟨0, 31⟩, ⟨127, 159⟩, ⟨768, 879⟩, ⟨8203, 8207⟩, ⟨65024, 65039⟩]
def WW : List S40 := [⟨4352, 4447⟩, ⟨11904, 12350⟩, ⟨12353, 13311⟩, ⟨13312, 19903⟩, ⟨19968, 42191⟩, ⟨44032, 55203⟩, ⟨63744, 64255⟩, ⟨65072, 65135⟩, ⟨65280, 65376⟩, ⟨65504, 65510⟩, ⟨127744, 128591⟩, ⟨131072, 262141⟩]
def wl (v : Int) : List S40 → Int → Int → Int
  | [], _, e => e
  | s :: l, r, e => if s.f0 ≤ r ∧ r ≤ s.f1 then v else wl v l r e
/-- A character's width. -/
def wd (r : Int) : Int := wl 0 NN r (wl 2 WW r 1)
end Go.Proofs.YtngcecmfgjgigaaDoor.WMath
