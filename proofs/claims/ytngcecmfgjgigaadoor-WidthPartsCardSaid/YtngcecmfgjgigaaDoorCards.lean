/-
  DERIVED. GIVEN WITH THE SEED: THE CARDS: each row of YtngcecmfgjgigaaDoorRows.lean that lists a variable, with what it lists TIED to the program's text (the seventh form; the later family's looks); each row that meets fmt, with fmt's text TOLD by the authors' own Lean function (tested against real Go, not proved from fmt's source: count such statements apart). THE CARD IS WHAT COUNTS. Prove the row's statement (the work); the ties are given (YtngcecmfgjgigaaDoorTie.lean); close each card by the builder's one call (the guide's Derived/Test/ToyasCard.lean, 'card_holds'). Laid BY PROGRAM, IN A SANDBOX (cutbox-door.mjs). By AI agents, Wed Nov 11 2026. No macro, syntax, notation, axiom, sorry.
-/
import Derived.Test.YtngcecmfgjgigaaDoorRows
import GoSem.ClaimSeven
namespace Go.Proofs.YtngcecmfgjgigaaDoor
namespace Rows

/-- THE TIED CARD OF 'domesdaylaw02.WidthRunes'. -/
def widthRunesCard : Claim7 := { stood := { row := widthRunesRow, standIns := [], harness := (true, "3b8cc4aa9b60984cee0da34e6c9f20263de7c5310fd89f669d397ffa2af14f07"), looks := false }, kinds := [], alts := [], laidByText := true, laidKinds := [.data, .pinned], laidTests := true, laidLooks := .later }
def WidthRunesCardSaid : Prop := Claim7.holds Tryd.pinned (.plain (OpenSpec.ofChange widthRunesSpec)) widthRunesCard

/-- THE TIED CARD OF 'domesdaylaw02.WidthMost'. -/
def widthMostCard : Claim7 := { stood := { row := widthMostRow, standIns := [], harness := (true, "3b8cc4aa9b60984cee0da34e6c9f20263de7c5310fd89f669d397ffa2af14f07"), looks := false }, kinds := [], alts := [], laidByText := true, laidKinds := [.data, .pinned], laidTests := true, laidLooks := .later }
def WidthMostCardSaid : Prop := Claim7.holds Tryd.pinned (.plain (OpenSpec.ofChange widthMostSpec)) widthMostCard

/-- THE TIED CARD OF 'domesdaylaw02.WidthTexts'. -/
def widthTextsCard : Claim7 := { stood := { row := widthTextsRow, standIns := [], harness := (true, "3b8cc4aa9b60984cee0da34e6c9f20263de7c5310fd89f669d397ffa2af14f07"), looks := false }, kinds := [], alts := [], laidByText := true, laidKinds := [.data, .pinned], laidTests := true, laidLooks := .later }
def WidthTextsCardSaid : Prop := Claim7.holds Tryd.pinned (.plain (OpenSpec.ofChange widthTextsSpec)) widthTextsCard

/-- THE TIED CARD OF 'domesdaylaw02.WidthParts'. -/
def widthPartsCard : Claim7 := { stood := { row := widthPartsRow, standIns := [], harness := (true, "3b8cc4aa9b60984cee0da34e6c9f20263de7c5310fd89f669d397ffa2af14f07"), looks := false }, kinds := [], alts := [], laidByText := true, laidKinds := [.data, .pinned], laidTests := true, laidLooks := .later }
def WidthPartsCardSaid : Prop := Claim7.holds Tryd.pinned (.plain (OpenSpec.ofChange widthPartsSpec)) widthPartsCard

/-- THE SECOND FORM's CARD OF 'domesdaylaw02.WidthRunes'. -/
def widthRunesUptoCard : Claim7 := { stood := { row := widthRunesUptoRow, standIns := [], harness := (true, "3b8cc4aa9b60984cee0da34e6c9f20263de7c5310fd89f669d397ffa2af14f07"), looks := false }, kinds := [], alts := [], laidByText := true, laidKinds := [.data, .pinned], laidTests := true, laidLooks := .later }
def WidthRunesUptoCardSaid : Prop := Claim7.holds Tryd.pinned (.plain (OpenSpec.upto widthRunesSpec)) widthRunesUptoCard

/-- THE SECOND FORM's CARD OF 'domesdaylaw02.WidthMost'. -/
def widthMostUptoCard : Claim7 := { stood := { row := widthMostUptoRow, standIns := [], harness := (true, "3b8cc4aa9b60984cee0da34e6c9f20263de7c5310fd89f669d397ffa2af14f07"), looks := false }, kinds := [], alts := [], laidByText := true, laidKinds := [.data, .pinned], laidTests := true, laidLooks := .later }
def WidthMostUptoCardSaid : Prop := Claim7.holds Tryd.pinned (.plain (OpenSpec.upto widthMostSpec)) widthMostUptoCard

/-- THE SECOND FORM's CARD OF 'domesdaylaw02.WidthTexts'. -/
def widthTextsUptoCard : Claim7 := { stood := { row := widthTextsUptoRow, standIns := [], harness := (true, "3b8cc4aa9b60984cee0da34e6c9f20263de7c5310fd89f669d397ffa2af14f07"), looks := false }, kinds := [], alts := [], laidByText := true, laidKinds := [.data, .pinned], laidTests := true, laidLooks := .later }
def WidthTextsUptoCardSaid : Prop := Claim7.holds Tryd.pinned (.plain (OpenSpec.upto widthTextsSpec)) widthTextsUptoCard

/-- THE SECOND FORM's CARD OF 'domesdaylaw02.WidthParts'. -/
def widthPartsUptoCard : Claim7 := { stood := { row := widthPartsUptoRow, standIns := [], harness := (true, "3b8cc4aa9b60984cee0da34e6c9f20263de7c5310fd89f669d397ffa2af14f07"), looks := false }, kinds := [], alts := [], laidByText := true, laidKinds := [.data, .pinned], laidTests := true, laidLooks := .later }
def WidthPartsUptoCardSaid : Prop := Claim7.holds Tryd.pinned (.plain (OpenSpec.upto widthPartsSpec)) widthPartsUptoCard
end Rows
end Go.Proofs.YtngcecmfgjgigaaDoor
