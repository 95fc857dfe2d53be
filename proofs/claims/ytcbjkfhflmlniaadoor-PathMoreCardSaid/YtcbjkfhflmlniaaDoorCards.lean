/-
  DERIVED. GIVEN WITH THE SEED: THE CARDS: each row of YtcbjkfhflmlniaaDoorRows.lean that lists a variable, with what it lists TIED to the program's text (the seventh form; the later family's looks); each row that meets fmt, with fmt's text TOLD by the authors' own Lean function (tested against real Go, not proved from fmt's source: count such statements apart). THE CARD IS WHAT COUNTS. Prove the row's statement (the work); the ties are given (YtcbjkfhflmlniaaDoorTie.lean); close each card by the builder's one call (the guide's Derived/Test/ToyasCard.lean, 'card_holds'). Laid BY PROGRAM, IN A SANDBOX (cutbox-door.mjs). By AI agents, Wed Nov 11 2026. No macro, syntax, notation, axiom, sorry.
-/
import Derived.Test.YtcbjkfhflmlniaaDoorRows
import GoSem.ClaimSeven
namespace Go.Proofs.YtcbjkfhflmlniaaDoor
namespace Rows

/-- THE TIED CARD OF 'domesdaylaw08.PathNames'. -/
def pathNamesCard : Claim7 := { stood := { row := pathNamesRow, standIns := [], harness := (true, "65ce2ad83cbc6b42c5592c41a5fb6fa4b1f91b91c8fbfd966f2c3b1575f5c5ea"), looks := false }, kinds := [], alts := [], laidByText := true, laidKinds := [.data, .pinned], laidTests := true, laidLooks := .later }
def PathNamesCardSaid : Prop := Claim7.holds Tryd.pinned (.plain (OpenSpec.ofChange pathNamesSpec)) pathNamesCard

/-- THE TIED CARD OF 'domesdaylaw08.PathUp'. -/
def pathUpCard : Claim7 := { stood := { row := pathUpRow, standIns := [], harness := (true, "65ce2ad83cbc6b42c5592c41a5fb6fa4b1f91b91c8fbfd966f2c3b1575f5c5ea"), looks := false }, kinds := [], alts := [], laidByText := true, laidKinds := [.data, .pinned], laidTests := true, laidLooks := .later }
def PathUpCardSaid : Prop := Claim7.holds Tryd.pinned (.plain (OpenSpec.ofChange pathUpSpec)) pathUpCard

/-- THE TIED CARD OF 'domesdaylaw08.PathMore'. -/
def pathMoreCard : Claim7 := { stood := { row := pathMoreRow, standIns := [], harness := (true, "65ce2ad83cbc6b42c5592c41a5fb6fa4b1f91b91c8fbfd966f2c3b1575f5c5ea"), looks := false }, kinds := [], alts := [], laidByText := true, laidKinds := [.data, .pinned], laidTests := true, laidLooks := .later }
def PathMoreCardSaid : Prop := Claim7.holds Tryd.pinned (.plain (OpenSpec.ofChange pathMoreSpec)) pathMoreCard

/-- THE TIED CARD OF 'domesdaylaw08.PathLoops'. -/
def pathLoopsCard : Claim7 := { stood := { row := pathLoopsRow, standIns := [], harness := (true, "65ce2ad83cbc6b42c5592c41a5fb6fa4b1f91b91c8fbfd966f2c3b1575f5c5ea"), looks := false }, kinds := [], alts := [], laidByText := true, laidKinds := [.data, .pinned], laidTests := true, laidLooks := .later }
def PathLoopsCardSaid : Prop := Claim7.holds Tryd.pinned (.plain (OpenSpec.ofChange pathLoopsSpec)) pathLoopsCard

/-- THE SECOND FORM's CARD OF 'domesdaylaw08.PathNames'. -/
def pathNamesUptoCard : Claim7 := { stood := { row := pathNamesUptoRow, standIns := [], harness := (true, "65ce2ad83cbc6b42c5592c41a5fb6fa4b1f91b91c8fbfd966f2c3b1575f5c5ea"), looks := false }, kinds := [], alts := [], laidByText := true, laidKinds := [.data, .pinned], laidTests := true, laidLooks := .later }
def PathNamesUptoCardSaid : Prop := Claim7.holds Tryd.pinned (.plain (OpenSpec.upto pathNamesSpec)) pathNamesUptoCard

/-- THE SECOND FORM's CARD OF 'domesdaylaw08.PathUp'. -/
def pathUpUptoCard : Claim7 := { stood := { row := pathUpUptoRow, standIns := [], harness := (true, "65ce2ad83cbc6b42c5592c41a5fb6fa4b1f91b91c8fbfd966f2c3b1575f5c5ea"), looks := false }, kinds := [], alts := [], laidByText := true, laidKinds := [.data, .pinned], laidTests := true, laidLooks := .later }
def PathUpUptoCardSaid : Prop := Claim7.holds Tryd.pinned (.plain (OpenSpec.upto pathUpSpec)) pathUpUptoCard

/-- THE SECOND FORM's CARD OF 'domesdaylaw08.PathMore'. -/
def pathMoreUptoCard : Claim7 := { stood := { row := pathMoreUptoRow, standIns := [], harness := (true, "65ce2ad83cbc6b42c5592c41a5fb6fa4b1f91b91c8fbfd966f2c3b1575f5c5ea"), looks := false }, kinds := [], alts := [], laidByText := true, laidKinds := [.data, .pinned], laidTests := true, laidLooks := .later }
def PathMoreUptoCardSaid : Prop := Claim7.holds Tryd.pinned (.plain (OpenSpec.upto pathMoreSpec)) pathMoreUptoCard

/-- THE SECOND FORM's CARD OF 'domesdaylaw08.PathLoops'. -/
def pathLoopsUptoCard : Claim7 := { stood := { row := pathLoopsUptoRow, standIns := [], harness := (true, "65ce2ad83cbc6b42c5592c41a5fb6fa4b1f91b91c8fbfd966f2c3b1575f5c5ea"), looks := false }, kinds := [], alts := [], laidByText := true, laidKinds := [.data, .pinned], laidTests := true, laidLooks := .later }
def PathLoopsUptoCardSaid : Prop := Claim7.holds Tryd.pinned (.plain (OpenSpec.upto pathLoopsSpec)) pathLoopsUptoCard
end Rows
end Go.Proofs.YtcbjkfhflmlniaaDoor
