/-
  DERIVED. GIVEN WITH THE SEED: THE CARDS: each row of YtbbnjpnpgcjelaaDoorRows.lean that lists a variable, with what it lists TIED to the program's text (the seventh form; the later family's looks); each row that meets fmt, with fmt's text TOLD by the authors' own Lean function (tested against real Go, not proved from fmt's source: count such statements apart). THE CARD IS WHAT COUNTS. Prove the row's statement (the work); the ties are given (YtbbnjpnpgcjelaaDoorTie.lean); close each card by the builder's one call (the guide's Derived/Test/ToyasCard.lean, 'card_holds'). Laid BY PROGRAM, IN A SANDBOX (cutbox-door.mjs). By AI agents, Wed Nov 11 2026. No macro, syntax, notation, axiom, sorry.
-/
import Derived.Test.YtbbnjpnpgcjelaaDoorRows
import GoSem.ClaimSeven
namespace Go.Proofs.YtbbnjpnpgcjelaaDoor
namespace Rows

/-- THE TIED CARD OF 'domesdaylaw05.StampParts'. -/
def stampPartsCard : Claim7 := { stood := { row := stampPartsRow, standIns := [], harness := (true, "c59ec9012f4df46edefadedb98afc93d21077939fdc89fa2f2af35e579d348cd"), looks := false }, kinds := [], alts := [], laidByText := true, laidKinds := [.data, .data, .data], laidTests := true, laidLooks := .later }
def StampPartsCardSaid : Prop := Claim7.holds Tryd.pinned (.plain (OpenSpec.ofChange stampPartsSpec)) stampPartsCard

/-- THE TIED CARD OF 'domesdaylaw05.StampFormats'. -/
def stampFormatsCard : Claim7 := { stood := { row := stampFormatsRow, standIns := [], harness := (true, "c59ec9012f4df46edefadedb98afc93d21077939fdc89fa2f2af35e579d348cd"), looks := false }, kinds := [], alts := [], laidByText := true, laidKinds := [.data, .data, .data], laidTests := true, laidLooks := .later }
def StampFormatsCardSaid : Prop := Claim7.holds Tryd.pinned (.plain (OpenSpec.ofChange stampFormatsSpec)) stampFormatsCard

/-- THE TIED CARD OF 'domesdaylaw05.StampJoins'. -/
def stampJoinsCard : Claim7 := { stood := { row := stampJoinsRow, standIns := [], harness := (true, "c59ec9012f4df46edefadedb98afc93d21077939fdc89fa2f2af35e579d348cd"), looks := false }, kinds := [], alts := [], laidByText := true, laidKinds := [.data, .data, .data], laidTests := true, laidLooks := .later }
def StampJoinsCardSaid : Prop := Claim7.holds Tryd.pinned (.plain (OpenSpec.ofChange stampJoinsSpec)) stampJoinsCard

/-- THE TIED CARD OF 'domesdaylaw05.StampStyles'. -/
def stampStylesCard : Claim7 := { stood := { row := stampStylesRow, standIns := [], harness := (true, "c59ec9012f4df46edefadedb98afc93d21077939fdc89fa2f2af35e579d348cd"), looks := false }, kinds := [], alts := [], laidByText := true, laidKinds := [.data, .data, .data], laidTests := true, laidLooks := .later }
def StampStylesCardSaid : Prop := Claim7.holds Tryd.pinned (.plain (OpenSpec.ofChange stampStylesSpec)) stampStylesCard

/-- THE SECOND FORM's CARD OF 'domesdaylaw05.StampParts'. -/
def stampPartsUptoCard : Claim7 := { stood := { row := stampPartsUptoRow, standIns := [], harness := (true, "c59ec9012f4df46edefadedb98afc93d21077939fdc89fa2f2af35e579d348cd"), looks := false }, kinds := [], alts := [], laidByText := true, laidKinds := [.data, .data, .data], laidTests := true, laidLooks := .later }
def StampPartsUptoCardSaid : Prop := Claim7.holds Tryd.pinned (.plain (OpenSpec.upto stampPartsSpec)) stampPartsUptoCard

/-- THE SECOND FORM's CARD OF 'domesdaylaw05.StampFormats'. -/
def stampFormatsUptoCard : Claim7 := { stood := { row := stampFormatsUptoRow, standIns := [], harness := (true, "c59ec9012f4df46edefadedb98afc93d21077939fdc89fa2f2af35e579d348cd"), looks := false }, kinds := [], alts := [], laidByText := true, laidKinds := [.data, .data, .data], laidTests := true, laidLooks := .later }
def StampFormatsUptoCardSaid : Prop := Claim7.holds Tryd.pinned (.plain (OpenSpec.upto stampFormatsSpec)) stampFormatsUptoCard

/-- THE SECOND FORM's CARD OF 'domesdaylaw05.StampJoins'. -/
def stampJoinsUptoCard : Claim7 := { stood := { row := stampJoinsUptoRow, standIns := [], harness := (true, "c59ec9012f4df46edefadedb98afc93d21077939fdc89fa2f2af35e579d348cd"), looks := false }, kinds := [], alts := [], laidByText := true, laidKinds := [.data, .data, .data], laidTests := true, laidLooks := .later }
def StampJoinsUptoCardSaid : Prop := Claim7.holds Tryd.pinned (.plain (OpenSpec.upto stampJoinsSpec)) stampJoinsUptoCard

/-- THE SECOND FORM's CARD OF 'domesdaylaw05.StampStyles'. -/
def stampStylesUptoCard : Claim7 := { stood := { row := stampStylesUptoRow, standIns := [], harness := (true, "c59ec9012f4df46edefadedb98afc93d21077939fdc89fa2f2af35e579d348cd"), looks := false }, kinds := [], alts := [], laidByText := true, laidKinds := [.data, .data, .data], laidTests := true, laidLooks := .later }
def StampStylesUptoCardSaid : Prop := Claim7.holds Tryd.pinned (.plain (OpenSpec.upto stampStylesSpec)) stampStylesUptoCard
end Rows
end Go.Proofs.YtbbnjpnpgcjelaaDoor
