/-
  DERIVED. GIVEN WITH THE SEED: THE CARDS: each row of YtkhbgfnbkdonlaaDoorRows.lean that lists a variable, with what it lists TIED to the program's text (the seventh form; the later family's looks); each row that meets fmt, with fmt's text TOLD by the authors' own Lean function (tested against real Go, not proved from fmt's source: count such statements apart). THE CARD IS WHAT COUNTS. Prove the row's statement (the work); the ties are given (YtkhbgfnbkdonlaaDoorTie.lean); close each card by the builder's one call (the guide's Derived/Test/ToyasCard.lean, 'card_holds'). Laid BY PROGRAM, IN A SANDBOX (cutbox-door.mjs). By AI agents, Wed Nov 11 2026. No macro, syntax, notation, axiom, sorry.
-/
import Derived.Test.YtkhbgfnbkdonlaaDoorRows
import GoSem.ClaimSeven
namespace Go.Proofs.YtkhbgfnbkdonlaaDoor
namespace Rows

/-- THE TIED CARD OF 'domesdaylaw03.QuoteApart'. -/
def quoteApartCard : Claim7 := { stood := { row := quoteApartRow, standIns := [], harness := (true, "27ca999389c5214ceff6ef9f7add0b55fa6c6e890479c26e816be0e2bedbb557"), looks := false }, kinds := [], alts := [], laidByText := true, laidKinds := [.data, .pinned], laidTests := true, laidLooks := .later }
def QuoteApartCardSaid : Prop := Claim7.holds Tryd.pinned (.plain (OpenSpec.ofChange quoteApartSpec)) quoteApartCard

/-- THE TIED CARD OF 'domesdaylaw03.QuoteStyles'. -/
def quoteStylesCard : Claim7 := { stood := { row := quoteStylesRow, standIns := [], harness := (true, "27ca999389c5214ceff6ef9f7add0b55fa6c6e890479c26e816be0e2bedbb557"), looks := false }, kinds := [], alts := [], laidByText := true, laidKinds := [.data, .pinned], laidTests := true, laidLooks := .later }
def QuoteStylesCardSaid : Prop := Claim7.holds Tryd.pinned (.plain (OpenSpec.ofChange quoteStylesSpec)) quoteStylesCard

/-- THE TIED CARD OF 'domesdaylaw03.QuoteClean'. -/
def quoteCleanCard : Claim7 := { stood := { row := quoteCleanRow, standIns := [], harness := (true, "27ca999389c5214ceff6ef9f7add0b55fa6c6e890479c26e816be0e2bedbb557"), looks := false }, kinds := [], alts := [], laidByText := true, laidKinds := [.data, .pinned], laidTests := true, laidLooks := .later }
def QuoteCleanCardSaid : Prop := Claim7.holds Tryd.pinned (.plain (OpenSpec.ofChange quoteCleanSpec)) quoteCleanCard

/-- THE TIED CARD OF 'domesdaylaw03.QuoteReads'. -/
def quoteReadsCard : Claim7 := { stood := { row := quoteReadsRow, standIns := [], harness := (true, "27ca999389c5214ceff6ef9f7add0b55fa6c6e890479c26e816be0e2bedbb557"), looks := false }, kinds := [], alts := [], laidByText := true, laidKinds := [.data, .pinned], laidTests := true, laidLooks := .later }
def QuoteReadsCardSaid : Prop := Claim7.holds Tryd.pinned (.plain (OpenSpec.ofChange quoteReadsSpec)) quoteReadsCard

/-- THE TIED CARD OF 'domesdaylaw03.QuoteBack'. -/
def quoteBackCard : Claim7 := { stood := { row := quoteBackRow, standIns := [], harness := (true, "27ca999389c5214ceff6ef9f7add0b55fa6c6e890479c26e816be0e2bedbb557"), looks := false }, kinds := [], alts := [], laidByText := true, laidKinds := [.data, .pinned], laidTests := true, laidLooks := .later }
def QuoteBackCardSaid : Prop := Claim7.holds Tryd.pinned (.plain (OpenSpec.ofChange quoteBackSpec)) quoteBackCard

/-- THE SECOND FORM's CARD OF 'domesdaylaw03.QuoteApart'. -/
def quoteApartUptoCard : Claim7 := { stood := { row := quoteApartUptoRow, standIns := [], harness := (true, "27ca999389c5214ceff6ef9f7add0b55fa6c6e890479c26e816be0e2bedbb557"), looks := false }, kinds := [], alts := [], laidByText := true, laidKinds := [.data, .pinned], laidTests := true, laidLooks := .later }
def QuoteApartUptoCardSaid : Prop := Claim7.holds Tryd.pinned (.plain (OpenSpec.upto quoteApartSpec)) quoteApartUptoCard

/-- THE SECOND FORM's CARD OF 'domesdaylaw03.QuoteStyles'. -/
def quoteStylesUptoCard : Claim7 := { stood := { row := quoteStylesUptoRow, standIns := [], harness := (true, "27ca999389c5214ceff6ef9f7add0b55fa6c6e890479c26e816be0e2bedbb557"), looks := false }, kinds := [], alts := [], laidByText := true, laidKinds := [.data, .pinned], laidTests := true, laidLooks := .later }
def QuoteStylesUptoCardSaid : Prop := Claim7.holds Tryd.pinned (.plain (OpenSpec.upto quoteStylesSpec)) quoteStylesUptoCard

/-- THE SECOND FORM's CARD OF 'domesdaylaw03.QuoteClean'. -/
def quoteCleanUptoCard : Claim7 := { stood := { row := quoteCleanUptoRow, standIns := [], harness := (true, "27ca999389c5214ceff6ef9f7add0b55fa6c6e890479c26e816be0e2bedbb557"), looks := false }, kinds := [], alts := [], laidByText := true, laidKinds := [.data, .pinned], laidTests := true, laidLooks := .later }
def QuoteCleanUptoCardSaid : Prop := Claim7.holds Tryd.pinned (.plain (OpenSpec.upto quoteCleanSpec)) quoteCleanUptoCard

/-- THE SECOND FORM's CARD OF 'domesdaylaw03.QuoteReads'. -/
def quoteReadsUptoCard : Claim7 := { stood := { row := quoteReadsUptoRow, standIns := [], harness := (true, "27ca999389c5214ceff6ef9f7add0b55fa6c6e890479c26e816be0e2bedbb557"), looks := false }, kinds := [], alts := [], laidByText := true, laidKinds := [.data, .pinned], laidTests := true, laidLooks := .later }
def QuoteReadsUptoCardSaid : Prop := Claim7.holds Tryd.pinned (.plain (OpenSpec.upto quoteReadsSpec)) quoteReadsUptoCard

/-- THE SECOND FORM's CARD OF 'domesdaylaw03.QuoteBack'. -/
def quoteBackUptoCard : Claim7 := { stood := { row := quoteBackUptoRow, standIns := [], harness := (true, "27ca999389c5214ceff6ef9f7add0b55fa6c6e890479c26e816be0e2bedbb557"), looks := false }, kinds := [], alts := [], laidByText := true, laidKinds := [.data, .pinned], laidTests := true, laidLooks := .later }
def QuoteBackUptoCardSaid : Prop := Claim7.holds Tryd.pinned (.plain (OpenSpec.upto quoteBackSpec)) quoteBackUptoCard
end Rows
end Go.Proofs.YtkhbgfnbkdonlaaDoor
