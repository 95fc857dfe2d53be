/-
  NARROWER THAN 'FOR EVERY INPUT', by the rows' own cells (each row's printed sentence says how): WidthRunes: laid · WidthMost: laid · WidthTexts: laid · WidthParts: laid.
  DERIVED. THE GIVEN ROWS OF THIS SEAT. 4 by the template 'for every input the law returns true; each argument reads behind the call as it read before'; 0 by the template 'total and deterministic' (their statements: YtngcecmfgjgigaaDoorTotals.lean).
  GIVEN WITH THE SEED: the statements are not yours to turn. If you find one false, say at which input.
  Laid BY PROGRAM, IN A SANDBOX (cutbox-rows.mjs): the forced cells as the released guide's own fill.sh prints them over the translation 4ee7de0a878af93b… (all of the seat's roots in one cut). By AI agents, Wed Nov 11 2026. No macro, syntax, notation, axiom, sorry.
-/
import Derived.Test.YtngcecmfgjgigaaDoorChecked
import GoSem.PinnedTables
import GoSem.Claim
import GoSem.ClaimJoined
import GoSem.ClaimMapViews
import Derived.JoinedTies
import Derived.KernelRfl
namespace Go.Proofs.YtngcecmfgjgigaaDoor
/- THE CELL 'sum', in the pinned program and in every row, IS THE sha256 OF THE DUMP (.gsa) THAT YtngcecmfgjgigaaDoorProg.lean LOADS. Nothing in Lean hashes anything: it is a label: what it is worth is what the hold of that sum in a sandbox is worth. -/
noncomputable def Tryd.pinned : Pinned := { name := "ytngcecmfgjgigaadoor", sum := "4ee7de0a878af93b1481a1ec75aa0f48933708b631c2c867195d0f8cd51c4ce0", checked := Tryd.checked }
namespace Rows
def none {H : Type} : Left H := { results := [], args := [] }

/- WHAT THE LISTED PACKAGE-LEVEL VARIABLES READ AS WHEN THE CALL BEGINS. Each datum BY PROGRAM (the guide's laid-datum.mjs) off the statement by which the dump's own 'gosem.cut.vars' lays the variable. In a bare row this is a premise. The card (YtngcecmfgjgigaaDoorCards.lean) ties it to the program's text. -/
def laid_unicode_utf8_acceptRanges {H : Type} : DataW H := .agg [.agg [.lit (.int .u8 128), .lit (.int .u8 191)], .agg [.lit (.int .u8 160), .lit (.int .u8 191)], .agg [.lit (.int .u8 128), .lit (.int .u8 159)], .agg [.lit (.int .u8 144), .lit (.int .u8 191)], .agg [.lit (.int .u8 128), .lit (.int .u8 143)], .agg [.lit (.int .u8 0), .lit (.int .u8 0)], .agg [.lit (.int .u8 0), .lit (.int .u8 0)], .agg [.lit (.int .u8 0), .lit (.int .u8 0)], .agg [.lit (.int .u8 0), .lit (.int .u8 0)], .agg [.lit (.int .u8 0), .lit (.int .u8 0)], .agg [.lit (.int .u8 0), .lit (.int .u8 0)], .agg [.lit (.int .u8 0), .lit (.int .u8 0)], .agg [.lit (.int .u8 0), .lit (.int .u8 0)], .agg [.lit (.int .u8 0), .lit (.int .u8 0)], .agg [.lit (.int .u8 0), .lit (.int .u8 0)], .agg [.lit (.int .u8 0), .lit (.int .u8 0)]]
/-- One of Go's own tables, pinned by name: the form's constant. -/
def laid_unicode_utf8_first : DataW Unit := Go.Pinned.utf8First

/-- 'domesdaylaw02.WidthRunes': WHATEVER THE INPUT: true; the input reads as it did. -/
def widthRunesSpec : ChangeSpec := { name := "widthRunes", fn := fun _ => fun
  | [d] => { results := [.lit (.bool true)], args := [d] }
  | _ => none }
def widthRunesRow : OpenClaim := { program := "ytngcecmfgjgigaadoor", sum := "4ee7de0a878af93b1481a1ec75aa0f48933708b631c2c867195d0f8cd51c4ce0", func := "domesday/domesdaylaw02.WidthRunes", spec := "widthRunes", named := ["unicode/utf8.first", "unicode/utf8.acceptRanges"], apart := false, laid := [("unicode/utf8.acceptRanges", laid_unicode_utf8_acceptRanges), ("unicode/utf8.first", laid_unicode_utf8_first)] }
def WidthRunesSaid : Prop := widthRunesRow.holds Tryd.pinned (OpenSpec.ofChange widthRunesSpec)

/-- ITS FALSE NEIGHBOUR: 'it returns false'. Refute it at one input. -/
def widthRunesWrong : ChangeSpec := { name := "widthRunes", fn := fun _ => fun
  | [d] => { results := [.lit (.bool false)], args := [d] }
  | _ => none }
def WidthRunesWrongFalsely : Prop := widthRunesRow.holds Tryd.pinned (OpenSpec.ofChange widthRunesWrong)

/-- 'domesdaylaw02.WidthMost': WHATEVER THE INPUT: true; the input reads as it did. -/
def widthMostSpec : ChangeSpec := { name := "widthMost", fn := fun _ => fun
  | [d] => { results := [.lit (.bool true)], args := [d] }
  | _ => none }
def widthMostRow : OpenClaim := { program := "ytngcecmfgjgigaadoor", sum := "4ee7de0a878af93b1481a1ec75aa0f48933708b631c2c867195d0f8cd51c4ce0", func := "domesday/domesdaylaw02.WidthMost", spec := "widthMost", named := ["unicode/utf8.first", "unicode/utf8.acceptRanges"], apart := false, laid := [("unicode/utf8.acceptRanges", laid_unicode_utf8_acceptRanges), ("unicode/utf8.first", laid_unicode_utf8_first)] }
def WidthMostSaid : Prop := widthMostRow.holds Tryd.pinned (OpenSpec.ofChange widthMostSpec)

/-- ITS FALSE NEIGHBOUR: 'it returns false'. Refute it at one input. -/
def widthMostWrong : ChangeSpec := { name := "widthMost", fn := fun _ => fun
  | [d] => { results := [.lit (.bool false)], args := [d] }
  | _ => none }
def WidthMostWrongFalsely : Prop := widthMostRow.holds Tryd.pinned (OpenSpec.ofChange widthMostWrong)

/-- 'domesdaylaw02.WidthTexts': WHATEVER THE INPUT: true; the input reads as it did. -/
def widthTextsSpec : ChangeSpec := { name := "widthTexts", fn := fun _ => fun
  | [d1, d2] => { results := [.lit (.bool true)], args := [d1, d2] }
  | _ => none }
def widthTextsRow : OpenClaim := { program := "ytngcecmfgjgigaadoor", sum := "4ee7de0a878af93b1481a1ec75aa0f48933708b631c2c867195d0f8cd51c4ce0", func := "domesday/domesdaylaw02.WidthTexts", spec := "widthTexts", named := ["unicode/utf8.first", "unicode/utf8.acceptRanges"], apart := false, laid := [("unicode/utf8.acceptRanges", laid_unicode_utf8_acceptRanges), ("unicode/utf8.first", laid_unicode_utf8_first)] }
def WidthTextsSaid : Prop := widthTextsRow.holds Tryd.pinned (OpenSpec.ofChange widthTextsSpec)

/-- ITS FALSE NEIGHBOUR: 'it returns false'. Refute it at one input. -/
def widthTextsWrong : ChangeSpec := { name := "widthTexts", fn := fun _ => fun
  | [d1, d2] => { results := [.lit (.bool false)], args := [d1, d2] }
  | _ => none }
def WidthTextsWrongFalsely : Prop := widthTextsRow.holds Tryd.pinned (OpenSpec.ofChange widthTextsWrong)

/-- 'domesdaylaw02.WidthParts': WHATEVER THE INPUT: true; the input reads as it did. -/
def widthPartsSpec : ChangeSpec := { name := "widthParts", fn := fun _ => fun
  | [d1, d2] => { results := [.lit (.bool true)], args := [d1, d2] }
  | _ => none }
def widthPartsRow : OpenClaim := { program := "ytngcecmfgjgigaadoor", sum := "4ee7de0a878af93b1481a1ec75aa0f48933708b631c2c867195d0f8cd51c4ce0", func := "domesday/domesdaylaw02.WidthParts", spec := "widthParts", named := ["unicode/utf8.first", "unicode/utf8.acceptRanges"], apart := false, laid := [("unicode/utf8.acceptRanges", laid_unicode_utf8_acceptRanges), ("unicode/utf8.first", laid_unicode_utf8_first)] }
def WidthPartsSaid : Prop := widthPartsRow.holds Tryd.pinned (OpenSpec.ofChange widthPartsSpec)

/-- ITS FALSE NEIGHBOUR: 'it returns false'. Refute it at one input. -/
def widthPartsWrong : ChangeSpec := { name := "widthParts", fn := fun _ => fun
  | [d1, d2] => { results := [.lit (.bool false)], args := [d1, d2] }
  | _ => none }
def WidthPartsWrongFalsely : Prop := widthPartsRow.holds Tryd.pinned (OpenSpec.ofChange widthPartsWrong)

/- THE SECOND FORM. 'bulk': how many values and letters a reading holds, each counted each time it is reached (what is shared counts as often as it is met; a slice's spare places count too). A statement '..UptoSaid' is the law's where the arguments, and the package variables that the reading takes, are together of bulk at most 1048576: NARROWER than '..Said'. Prove '..Said' where nothing that the law and all that it calls make is longer than what came in: it says more and counts as full. Else prove '..UptoSaid'. A law counts once. -/
mutual
def uptoBulk {H : Type} : DataW H → Nat
  | .lit (.string bytes) => bytes.length + 1
  | .lit _ => 1
  | .nil => 1
  | .ptr d => uptoBulk d + 1
  | .slice elems spare => uptoBulkAll elems + uptoBulkAll spare + 1
  | .agg parts => uptoBulkAll parts + 1
  | .iface _ d => uptoBulk d + 1
  | .map entries => uptoBulkEntries entries + 1
  | .held _ => 1
def uptoBulkAll {H : Type} : List (DataW H) → Nat
  | [] => 0
  | d :: r => uptoBulk d + uptoBulkAll r
def uptoBulkEntries {H : Type} : List (Lit × DataW H) → Nat
  | [] => 0
  | x :: r => uptoBulkEntry x + uptoBulkEntries r
def uptoBulkEntry {H : Type} : Lit × DataW H → Nat
  | (.string bytes, d) => bytes.length + uptoBulk d + 1
  | (_, d) => uptoBulk d + 1
 end
def uptoSmall : (H : Type) → List (DataW H) → Bool := fun _ ds => decide (uptoBulkAll ds ≤ 1048576)
def OpenSpec.upto (s : _root_.Go.ChangeSpec) : _root_.Go.OpenSpec := { _root_.Go.OpenSpec.ofChange s with cond := some uptoSmall }

/-- 'domesdaylaw02.WidthRunes', WHERE WHAT IT READS IS OF BULK AT MOST 1048576: true; the input reads as it did. -/
def widthRunesUptoRow : OpenClaim := { program := "ytngcecmfgjgigaadoor", sum := "4ee7de0a878af93b1481a1ec75aa0f48933708b631c2c867195d0f8cd51c4ce0", func := "domesday/domesdaylaw02.WidthRunes", spec := "widthRunes", named := ["unicode/utf8.first", "unicode/utf8.acceptRanges"], apart := false, laid := [("unicode/utf8.acceptRanges", laid_unicode_utf8_acceptRanges), ("unicode/utf8.first", laid_unicode_utf8_first)], narrowed := true }
def WidthRunesUptoSaid : Prop := widthRunesUptoRow.holds Tryd.pinned (OpenSpec.upto widthRunesSpec)

/-- 'domesdaylaw02.WidthMost', WHERE WHAT IT READS IS OF BULK AT MOST 1048576: true; the input reads as it did. -/
def widthMostUptoRow : OpenClaim := { program := "ytngcecmfgjgigaadoor", sum := "4ee7de0a878af93b1481a1ec75aa0f48933708b631c2c867195d0f8cd51c4ce0", func := "domesday/domesdaylaw02.WidthMost", spec := "widthMost", named := ["unicode/utf8.first", "unicode/utf8.acceptRanges"], apart := false, laid := [("unicode/utf8.acceptRanges", laid_unicode_utf8_acceptRanges), ("unicode/utf8.first", laid_unicode_utf8_first)], narrowed := true }
def WidthMostUptoSaid : Prop := widthMostUptoRow.holds Tryd.pinned (OpenSpec.upto widthMostSpec)

/-- 'domesdaylaw02.WidthTexts', WHERE WHAT IT READS IS OF BULK AT MOST 1048576: true; the input reads as it did. -/
def widthTextsUptoRow : OpenClaim := { program := "ytngcecmfgjgigaadoor", sum := "4ee7de0a878af93b1481a1ec75aa0f48933708b631c2c867195d0f8cd51c4ce0", func := "domesday/domesdaylaw02.WidthTexts", spec := "widthTexts", named := ["unicode/utf8.first", "unicode/utf8.acceptRanges"], apart := false, laid := [("unicode/utf8.acceptRanges", laid_unicode_utf8_acceptRanges), ("unicode/utf8.first", laid_unicode_utf8_first)], narrowed := true }
def WidthTextsUptoSaid : Prop := widthTextsUptoRow.holds Tryd.pinned (OpenSpec.upto widthTextsSpec)

/-- 'domesdaylaw02.WidthParts', WHERE WHAT IT READS IS OF BULK AT MOST 1048576: true; the input reads as it did. -/
def widthPartsUptoRow : OpenClaim := { program := "ytngcecmfgjgigaadoor", sum := "4ee7de0a878af93b1481a1ec75aa0f48933708b631c2c867195d0f8cd51c4ce0", func := "domesday/domesdaylaw02.WidthParts", spec := "widthParts", named := ["unicode/utf8.first", "unicode/utf8.acceptRanges"], apart := false, laid := [("unicode/utf8.acceptRanges", laid_unicode_utf8_acceptRanges), ("unicode/utf8.first", laid_unicode_utf8_first)], narrowed := true }
def WidthPartsUptoSaid : Prop := widthPartsUptoRow.holds Tryd.pinned (OpenSpec.upto widthPartsSpec)

end Rows
end Go.Proofs.YtngcecmfgjgigaaDoor
