/-
  DERIVED. GIVEN WITH THE SEED: THE CARDS: each row of YtekcgjpmlkngjaaDoorRows.lean that lists a variable, with what it lists TIED to the program's text (the seventh form; the later family's looks); each row that meets fmt, with fmt's text TOLD by the authors' own Lean function (tested against real Go, not proved from fmt's source: count such statements apart). THE CARD IS WHAT COUNTS. Prove the row's statement (the work); the ties are given (YtekcgjpmlkngjaaDoorTie.lean); close each card by the builder's one call (the guide's Derived/Test/ToyasCard.lean, 'card_holds'). Laid BY PROGRAM, IN A SANDBOX (cutbox-door.mjs). By AI agents, Wed Nov 11 2026. No macro, syntax, notation, axiom, sorry.
-/
import Derived.Test.YtekcgjpmlkngjaaDoorRows
import GoSem.ClaimSeven
namespace Go.Proofs.YtekcgjpmlkngjaaDoor
namespace Rows

/-- THE TIED CARD OF 'domesdaylaw01.DigitsRounds'. -/
def digitsRoundsCard : Claim7 := { stood := { row := digitsRoundsRow, standIns := [], harness := (true, "7660a7801b5b4fd68671b5595d9b3343364b98f6070b5617dac418c018c8f845"), looks := true }, kinds := [], alts := [], laidByText := true, laidKinds := [.data, .data, .data], laidTests := true, laidLooks := .later }
def DigitsRoundsCardSaid : Prop := Claim7.holds Tryd.pinned (.plain (OpenSpec.ofChange digitsRoundsSpec)) digitsRoundsCard

/-- THE TIED CARD OF 'domesdaylaw01.DigitsPads'. -/
def digitsPadsCard : Claim7 := { stood := { row := digitsPadsRow, standIns := [], harness := (true, "7660a7801b5b4fd68671b5595d9b3343364b98f6070b5617dac418c018c8f845"), looks := true }, kinds := [], alts := [], laidByText := true, laidKinds := [.data, .data, .data], laidTests := true, laidLooks := .later }
def DigitsPadsCardSaid : Prop := Claim7.holds Tryd.pinned (.plain (OpenSpec.ofChange digitsPadsSpec)) digitsPadsCard

/-- THE TIED CARD OF 'domesdaylaw01.DigitsReads'. -/
def digitsReadsCard : Claim7 := { stood := { row := digitsReadsRow, standIns := [], harness := (true, "7660a7801b5b4fd68671b5595d9b3343364b98f6070b5617dac418c018c8f845"), looks := true }, kinds := [], alts := [], laidByText := true, laidKinds := [.data, .data, .data, .sentinel, .sentinel], laidTests := true, laidLooks := .later }
def DigitsReadsCardSaid : Prop := Claim7.holds Tryd.pinned (.plain (OpenSpec.ofChange digitsReadsSpec)) digitsReadsCard

/-- THE TIED CARD OF 'domesdaylaw01.DigitsWrites'. -/
def digitsWritesCard : Claim7 := { stood := { row := digitsWritesRow, standIns := [], harness := (true, "7660a7801b5b4fd68671b5595d9b3343364b98f6070b5617dac418c018c8f845"), looks := true }, kinds := [], alts := [], laidByText := true, laidKinds := [.data, .data, .data, .sentinel, .sentinel], laidTests := true, laidLooks := .later }
def DigitsWritesCardSaid : Prop := Claim7.holds Tryd.pinned (.plain (OpenSpec.ofChange digitsWritesSpec)) digitsWritesCard

/-- THE SECOND FORM's CARD OF 'domesdaylaw01.DigitsRounds'. -/
def digitsRoundsUptoCard : Claim7 := { stood := { row := digitsRoundsUptoRow, standIns := [], harness := (true, "7660a7801b5b4fd68671b5595d9b3343364b98f6070b5617dac418c018c8f845"), looks := true }, kinds := [], alts := [], laidByText := true, laidKinds := [.data, .data, .data], laidTests := true, laidLooks := .later }
def DigitsRoundsUptoCardSaid : Prop := Claim7.holds Tryd.pinned (.plain (OpenSpec.upto digitsRoundsSpec)) digitsRoundsUptoCard

/-- THE SECOND FORM's CARD OF 'domesdaylaw01.DigitsPads'. -/
def digitsPadsUptoCard : Claim7 := { stood := { row := digitsPadsUptoRow, standIns := [], harness := (true, "7660a7801b5b4fd68671b5595d9b3343364b98f6070b5617dac418c018c8f845"), looks := true }, kinds := [], alts := [], laidByText := true, laidKinds := [.data, .data, .data], laidTests := true, laidLooks := .later }
def DigitsPadsUptoCardSaid : Prop := Claim7.holds Tryd.pinned (.plain (OpenSpec.upto digitsPadsSpec)) digitsPadsUptoCard

/-- THE SECOND FORM's CARD OF 'domesdaylaw01.DigitsReads'. -/
def digitsReadsUptoCard : Claim7 := { stood := { row := digitsReadsUptoRow, standIns := [], harness := (true, "7660a7801b5b4fd68671b5595d9b3343364b98f6070b5617dac418c018c8f845"), looks := true }, kinds := [], alts := [], laidByText := true, laidKinds := [.data, .data, .data, .sentinel, .sentinel], laidTests := true, laidLooks := .later }
def DigitsReadsUptoCardSaid : Prop := Claim7.holds Tryd.pinned (.plain (OpenSpec.upto digitsReadsSpec)) digitsReadsUptoCard

/-- THE SECOND FORM's CARD OF 'domesdaylaw01.DigitsWrites'. -/
def digitsWritesUptoCard : Claim7 := { stood := { row := digitsWritesUptoRow, standIns := [], harness := (true, "7660a7801b5b4fd68671b5595d9b3343364b98f6070b5617dac418c018c8f845"), looks := true }, kinds := [], alts := [], laidByText := true, laidKinds := [.data, .data, .data, .sentinel, .sentinel], laidTests := true, laidLooks := .later }
def DigitsWritesUptoCardSaid : Prop := Claim7.holds Tryd.pinned (.plain (OpenSpec.upto digitsWritesSpec)) digitsWritesUptoCard
end Rows
end Go.Proofs.YtekcgjpmlkngjaaDoor
