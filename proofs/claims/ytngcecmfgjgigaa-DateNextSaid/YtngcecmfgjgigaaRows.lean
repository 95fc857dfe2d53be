/-
  No cell of these rows narrows 'for every input' (looked for: loops, veiled, ifaces, maps, wideKeys, modest, calm, conditions, laid).
  DERIVED. THE GIVEN ROWS OF THIS SEAT. 8 by the template 'for every input the law returns true; each argument reads behind the call as it read before'; 0 by the template 'total and deterministic' (their statements: YtngcecmfgjgigaaTotals.lean).
  GIVEN WITH THE SEED: the statements are not yours to turn. If you find one false, say at which input.
  Laid BY PROGRAM, IN A SANDBOX (cutbox-rows.mjs): the forced cells as the released guide's own fill.sh prints them over the translation 071dc5aa72548417… (all of the seat's roots in one cut). By AI agents, Wed Nov 11 2026. No macro, syntax, notation, axiom, sorry.
-/
import Derived.Test.YtngcecmfgjgigaaChecked
import GoSem.Claim
import GoSem.ClaimJoined
import GoSem.ClaimMapViews
import Derived.JoinedTies
import Derived.KernelRfl
namespace Go.Proofs.Ytngcecmfgjgigaa
/- THE CELL 'sum', in the pinned program and in every row, IS THE sha256 OF THE DUMP (.gsa) THAT YtngcecmfgjgigaaProg.lean LOADS. Nothing in Lean hashes anything: it is a label: what it is worth is what the hold of that sum in a sandbox is worth. -/
noncomputable def Try.pinned : Pinned := { name := "ytngcecmfgjgigaa", sum := "071dc5aa72548417a0111deeee0e4c40bb8f469111e3abbbb5762adfed3c412b", checked := Try.checked }
namespace Rows
def none {H : Type} : Left H := { results := [], args := [] }

/-- 'domesdaylaw07.PermTexts': WHATEVER THE INPUT: true; the input reads as it did. -/
def permTextsSpec : ChangeSpec := { name := "permTexts", fn := fun _ => fun
  | [d] => { results := [.lit (.bool true)], args := [d] }
  | _ => none }
def permTextsRow : OpenClaim := { program := "ytngcecmfgjgigaa", sum := "071dc5aa72548417a0111deeee0e4c40bb8f469111e3abbbb5762adfed3c412b", func := "domesday/domesdaylaw07.PermTexts", spec := "permTexts", apart := false }
def PermTextsSaid : Prop := permTextsRow.holds Try.pinned (OpenSpec.ofChange permTextsSpec)

/-- ITS FALSE NEIGHBOUR: 'it returns false'. Refute it at one input. -/
def permTextsWrong : ChangeSpec := { name := "permTexts", fn := fun _ => fun
  | [d] => { results := [.lit (.bool false)], args := [d] }
  | _ => none }
def PermTextsWrongFalsely : Prop := permTextsRow.holds Try.pinned (OpenSpec.ofChange permTextsWrong)

/-- 'domesdaylaw07.PermMay': WHATEVER THE INPUT: true; the input reads as it did. -/
def permMaySpec : ChangeSpec := { name := "permMay", fn := fun _ => fun
  | [d1, d2, d3] => { results := [.lit (.bool true)], args := [d1, d2, d3] }
  | _ => none }
def permMayRow : OpenClaim := { program := "ytngcecmfgjgigaa", sum := "071dc5aa72548417a0111deeee0e4c40bb8f469111e3abbbb5762adfed3c412b", func := "domesday/domesdaylaw07.PermMay", spec := "permMay", apart := false }
def PermMaySaid : Prop := permMayRow.holds Try.pinned (OpenSpec.ofChange permMaySpec)

/-- ITS FALSE NEIGHBOUR: 'it returns false'. Refute it at one input. -/
def permMayWrong : ChangeSpec := { name := "permMay", fn := fun _ => fun
  | [d1, d2, d3] => { results := [.lit (.bool false)], args := [d1, d2, d3] }
  | _ => none }
def PermMayWrongFalsely : Prop := permMayRow.holds Try.pinned (OpenSpec.ofChange permMayWrong)

/-- 'domesdaylaw07.PermEach': WHATEVER THE INPUT: true; the input reads as it did. -/
def permEachSpec : ChangeSpec := { name := "permEach", fn := fun _ => fun
  | [d1, d2, d3] => { results := [.lit (.bool true)], args := [d1, d2, d3] }
  | _ => none }
def permEachRow : OpenClaim := { program := "ytngcecmfgjgigaa", sum := "071dc5aa72548417a0111deeee0e4c40bb8f469111e3abbbb5762adfed3c412b", func := "domesday/domesdaylaw07.PermEach", spec := "permEach", apart := false }
def PermEachSaid : Prop := permEachRow.holds Try.pinned (OpenSpec.ofChange permEachSpec)

/-- ITS FALSE NEIGHBOUR: 'it returns false'. Refute it at one input. -/
def permEachWrong : ChangeSpec := { name := "permEach", fn := fun _ => fun
  | [d1, d2, d3] => { results := [.lit (.bool false)], args := [d1, d2, d3] }
  | _ => none }
def PermEachWrongFalsely : Prop := permEachRow.holds Try.pinned (OpenSpec.ofChange permEachWrong)

/-- 'domesdaylaw04.DateMonths': WHATEVER THE INPUT: true; the input reads as it did. -/
def dateMonthsSpec : ChangeSpec := { name := "dateMonths", fn := fun _ => fun
  | [d1, d2] => { results := [.lit (.bool true)], args := [d1, d2] }
  | _ => none }
def dateMonthsRow : OpenClaim := { program := "ytngcecmfgjgigaa", sum := "071dc5aa72548417a0111deeee0e4c40bb8f469111e3abbbb5762adfed3c412b", func := "domesday/domesdaylaw04.DateMonths", spec := "dateMonths", apart := false }
def DateMonthsSaid : Prop := dateMonthsRow.holds Try.pinned (OpenSpec.ofChange dateMonthsSpec)

/-- ITS FALSE NEIGHBOUR: 'it returns false'. Refute it at one input. -/
def dateMonthsWrong : ChangeSpec := { name := "dateMonths", fn := fun _ => fun
  | [d1, d2] => { results := [.lit (.bool false)], args := [d1, d2] }
  | _ => none }
def DateMonthsWrongFalsely : Prop := dateMonthsRow.holds Try.pinned (OpenSpec.ofChange dateMonthsWrong)

/-- 'domesdaylaw04.DateNext': WHATEVER THE INPUT: true; the input reads as it did. -/
def dateNextSpec : ChangeSpec := { name := "dateNext", fn := fun _ => fun
  | [d1, d2] => { results := [.lit (.bool true)], args := [d1, d2] }
  | _ => none }
def dateNextRow : OpenClaim := { program := "ytngcecmfgjgigaa", sum := "071dc5aa72548417a0111deeee0e4c40bb8f469111e3abbbb5762adfed3c412b", func := "domesday/domesdaylaw04.DateNext", spec := "dateNext", apart := false }
def DateNextSaid : Prop := dateNextRow.holds Try.pinned (OpenSpec.ofChange dateNextSpec)

/-- ITS FALSE NEIGHBOUR: 'it returns false'. Refute it at one input. -/
def dateNextWrong : ChangeSpec := { name := "dateNext", fn := fun _ => fun
  | [d1, d2] => { results := [.lit (.bool false)], args := [d1, d2] }
  | _ => none }
def DateNextWrongFalsely : Prop := dateNextRow.holds Try.pinned (OpenSpec.ofChange dateNextWrong)

/-- 'domesdaylaw04.DateCycles': WHATEVER THE INPUT: true; the input reads as it did. -/
def dateCyclesSpec : ChangeSpec := { name := "dateCycles", fn := fun _ => fun
  | [d1, d2, d3] => { results := [.lit (.bool true)], args := [d1, d2, d3] }
  | _ => none }
def dateCyclesRow : OpenClaim := { program := "ytngcecmfgjgigaa", sum := "071dc5aa72548417a0111deeee0e4c40bb8f469111e3abbbb5762adfed3c412b", func := "domesday/domesdaylaw04.DateCycles", spec := "dateCycles", apart := false }
def DateCyclesSaid : Prop := dateCyclesRow.holds Try.pinned (OpenSpec.ofChange dateCyclesSpec)

/-- ITS FALSE NEIGHBOUR: 'it returns false'. Refute it at one input. -/
def dateCyclesWrong : ChangeSpec := { name := "dateCycles", fn := fun _ => fun
  | [d1, d2, d3] => { results := [.lit (.bool false)], args := [d1, d2, d3] }
  | _ => none }
def DateCyclesWrongFalsely : Prop := dateCyclesRow.holds Try.pinned (OpenSpec.ofChange dateCyclesWrong)

/-- 'domesdaylaw04.DateOf': WHATEVER THE INPUT: true; the input reads as it did. -/
def dateOfSpec : ChangeSpec := { name := "dateOf", fn := fun _ => fun
  | [d1, d2] => { results := [.lit (.bool true)], args := [d1, d2] }
  | _ => none }
def dateOfRow : OpenClaim := { program := "ytngcecmfgjgigaa", sum := "071dc5aa72548417a0111deeee0e4c40bb8f469111e3abbbb5762adfed3c412b", func := "domesday/domesdaylaw04.DateOf", spec := "dateOf", apart := false }
def DateOfSaid : Prop := dateOfRow.holds Try.pinned (OpenSpec.ofChange dateOfSpec)

/-- ITS FALSE NEIGHBOUR: 'it returns false'. Refute it at one input. -/
def dateOfWrong : ChangeSpec := { name := "dateOf", fn := fun _ => fun
  | [d1, d2] => { results := [.lit (.bool false)], args := [d1, d2] }
  | _ => none }
def DateOfWrongFalsely : Prop := dateOfRow.holds Try.pinned (OpenSpec.ofChange dateOfWrong)

/-- 'domesdaylaw04.DateRight': WHATEVER THE INPUT: true; the input reads as it did. -/
def dateRightSpec : ChangeSpec := { name := "dateRight", fn := fun _ => fun
  | [d1, d2] => { results := [.lit (.bool true)], args := [d1, d2] }
  | _ => none }
def dateRightRow : OpenClaim := { program := "ytngcecmfgjgigaa", sum := "071dc5aa72548417a0111deeee0e4c40bb8f469111e3abbbb5762adfed3c412b", func := "domesday/domesdaylaw04.DateRight", spec := "dateRight", apart := false }
def DateRightSaid : Prop := dateRightRow.holds Try.pinned (OpenSpec.ofChange dateRightSpec)

/-- ITS FALSE NEIGHBOUR: 'it returns false'. Refute it at one input. -/
def dateRightWrong : ChangeSpec := { name := "dateRight", fn := fun _ => fun
  | [d1, d2] => { results := [.lit (.bool false)], args := [d1, d2] }
  | _ => none }
def DateRightWrongFalsely : Prop := dateRightRow.holds Try.pinned (OpenSpec.ofChange dateRightWrong)

/- THE SECOND FORM. 'bulk': how many values and letters a reading holds, each counted each time it is reached (what is shared counts as often as it is met; a slice's spare places count too). A statement '..UptoSaid' is the law's where the arguments, and the package variables that the reading takes, are together of bulk at most 1048576: NARROWER than '..Said'. Prove '..Said' where nothing that the law and all that it calls make is longer than what came in: it says more and counts as full. Else prove '..UptoSaid'. A law counts once. -/
mutual
def uptoBulk {H : Type} : DataW H → Nat
  | .lit (.string bytes) => bytes.length + 1
  | .lit _ => 1
  | .nil => 1
  | .ptr d => uptoBulk d + 1
  | .slice elems spare => uptoBulkAll elems + uptoBulkAll spare + 1
  | .agg parts => uptoBulkAll parts + 1
  | .iface _ d => uptoBulk d + 1
  | .map entries => uptoBulkEntries entries + 1
  | .held _ => 1
def uptoBulkAll {H : Type} : List (DataW H) → Nat
  | [] => 0
  | d :: r => uptoBulk d + uptoBulkAll r
def uptoBulkEntries {H : Type} : List (Lit × DataW H) → Nat
  | [] => 0
  | x :: r => uptoBulkEntry x + uptoBulkEntries r
def uptoBulkEntry {H : Type} : Lit × DataW H → Nat
  | (.string bytes, d) => bytes.length + uptoBulk d + 1
  | (_, d) => uptoBulk d + 1
 end
def uptoSmall : (H : Type) → List (DataW H) → Bool := fun _ ds => decide (uptoBulkAll ds ≤ 1048576)
def OpenSpec.upto (s : _root_.Go.ChangeSpec) : _root_.Go.OpenSpec := { _root_.Go.OpenSpec.ofChange s with cond := some uptoSmall }

/-- 'domesdaylaw07.PermTexts', WHERE WHAT IT READS IS OF BULK AT MOST 1048576: true; the input reads as it did. -/
def permTextsUptoRow : OpenClaim := { program := "ytngcecmfgjgigaa", sum := "071dc5aa72548417a0111deeee0e4c40bb8f469111e3abbbb5762adfed3c412b", func := "domesday/domesdaylaw07.PermTexts", spec := "permTexts", apart := false, narrowed := true }
def PermTextsUptoSaid : Prop := permTextsUptoRow.holds Try.pinned (OpenSpec.upto permTextsSpec)

/-- 'domesdaylaw07.PermMay', WHERE WHAT IT READS IS OF BULK AT MOST 1048576: true; the input reads as it did. -/
def permMayUptoRow : OpenClaim := { program := "ytngcecmfgjgigaa", sum := "071dc5aa72548417a0111deeee0e4c40bb8f469111e3abbbb5762adfed3c412b", func := "domesday/domesdaylaw07.PermMay", spec := "permMay", apart := false, narrowed := true }
def PermMayUptoSaid : Prop := permMayUptoRow.holds Try.pinned (OpenSpec.upto permMaySpec)

/-- 'domesdaylaw07.PermEach', WHERE WHAT IT READS IS OF BULK AT MOST 1048576: true; the input reads as it did. -/
def permEachUptoRow : OpenClaim := { program := "ytngcecmfgjgigaa", sum := "071dc5aa72548417a0111deeee0e4c40bb8f469111e3abbbb5762adfed3c412b", func := "domesday/domesdaylaw07.PermEach", spec := "permEach", apart := false, narrowed := true }
def PermEachUptoSaid : Prop := permEachUptoRow.holds Try.pinned (OpenSpec.upto permEachSpec)

/-- 'domesdaylaw04.DateMonths', WHERE WHAT IT READS IS OF BULK AT MOST 1048576: true; the input reads as it did. -/
def dateMonthsUptoRow : OpenClaim := { program := "ytngcecmfgjgigaa", sum := "071dc5aa72548417a0111deeee0e4c40bb8f469111e3abbbb5762adfed3c412b", func := "domesday/domesdaylaw04.DateMonths", spec := "dateMonths", apart := false, narrowed := true }
def DateMonthsUptoSaid : Prop := dateMonthsUptoRow.holds Try.pinned (OpenSpec.upto dateMonthsSpec)

/-- 'domesdaylaw04.DateNext', WHERE WHAT IT READS IS OF BULK AT MOST 1048576: true; the input reads as it did. -/
def dateNextUptoRow : OpenClaim := { program := "ytngcecmfgjgigaa", sum := "071dc5aa72548417a0111deeee0e4c40bb8f469111e3abbbb5762adfed3c412b", func := "domesday/domesdaylaw04.DateNext", spec := "dateNext", apart := false, narrowed := true }
def DateNextUptoSaid : Prop := dateNextUptoRow.holds Try.pinned (OpenSpec.upto dateNextSpec)

/-- 'domesdaylaw04.DateCycles', WHERE WHAT IT READS IS OF BULK AT MOST 1048576: true; the input reads as it did. -/
def dateCyclesUptoRow : OpenClaim := { program := "ytngcecmfgjgigaa", sum := "071dc5aa72548417a0111deeee0e4c40bb8f469111e3abbbb5762adfed3c412b", func := "domesday/domesdaylaw04.DateCycles", spec := "dateCycles", apart := false, narrowed := true }
def DateCyclesUptoSaid : Prop := dateCyclesUptoRow.holds Try.pinned (OpenSpec.upto dateCyclesSpec)

/-- 'domesdaylaw04.DateOf', WHERE WHAT IT READS IS OF BULK AT MOST 1048576: true; the input reads as it did. -/
def dateOfUptoRow : OpenClaim := { program := "ytngcecmfgjgigaa", sum := "071dc5aa72548417a0111deeee0e4c40bb8f469111e3abbbb5762adfed3c412b", func := "domesday/domesdaylaw04.DateOf", spec := "dateOf", apart := false, narrowed := true }
def DateOfUptoSaid : Prop := dateOfUptoRow.holds Try.pinned (OpenSpec.upto dateOfSpec)

/-- 'domesdaylaw04.DateRight', WHERE WHAT IT READS IS OF BULK AT MOST 1048576: true; the input reads as it did. -/
def dateRightUptoRow : OpenClaim := { program := "ytngcecmfgjgigaa", sum := "071dc5aa72548417a0111deeee0e4c40bb8f469111e3abbbb5762adfed3c412b", func := "domesday/domesdaylaw04.DateRight", spec := "dateRight", apart := false, narrowed := true }
def DateRightUptoSaid : Prop := dateRightUptoRow.holds Try.pinned (OpenSpec.upto dateRightSpec)

end Rows
end Go.Proofs.Ytngcecmfgjgigaa
