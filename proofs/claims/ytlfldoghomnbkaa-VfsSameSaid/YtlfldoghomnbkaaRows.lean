/-
  No cell of these rows narrows 'for every input' (looked for: loops, veiled, ifaces, maps, wideKeys, modest, calm, conditions, laid).
  DERIVED. THE GIVEN ROWS OF THIS SEAT. 5 by the template 'for every input the law returns true; each argument reads behind the call as it read before'; 0 by the template 'total and deterministic' (their statements: YtlfldoghomnbkaaTotals.lean).
  GIVEN WITH THE SEED: the statements are not yours to turn. If you find one false, say at which input.
  Laid BY PROGRAM, IN A SANDBOX (cutbox-rows.mjs): the forced cells as the released guide's own fill.sh prints them over the translation 91a1bc8bdb092b0e… (all of the seat's roots in one cut). By AI agents, Wed Nov 11 2026. No macro, syntax, notation, axiom, sorry.
-/
import Derived.Test.YtlfldoghomnbkaaChecked
import GoSem.Claim
import GoSem.ClaimJoined
import GoSem.ClaimMapViews
import Derived.JoinedTies
import Derived.KernelRfl
namespace Go.Proofs.Ytlfldoghomnbkaa
/- THE CELL 'sum', in the pinned program and in every row, IS THE sha256 OF THE DUMP (.gsa) THAT YtlfldoghomnbkaaProg.lean LOADS. Nothing in Lean hashes anything: it is a label: what it is worth is what the hold of that sum in a sandbox is worth. -/
noncomputable def Try.pinned : Pinned := { name := "ytlfldoghomnbkaa", sum := "91a1bc8bdb092b0ed764878d717f173cb168234a993d87df184dac353a070031", checked := Try.checked }
namespace Rows
def none {H : Type} : Left H := { results := [], args := [] }

/-- 'domesdaylaw06.VfsNames': WHATEVER THE INPUT: true; the input reads as it did. -/
def vfsNamesSpec : ChangeSpec := { name := "vfsNames", fn := fun _ => fun
  | [d] => { results := [.lit (.bool true)], args := [d] }
  | _ => none }
def vfsNamesRow : OpenClaim := { program := "ytlfldoghomnbkaa", sum := "91a1bc8bdb092b0ed764878d717f173cb168234a993d87df184dac353a070031", func := "domesday/domesdaylaw06.VfsNames", spec := "vfsNames", inPlace := ["internal/bytealg.IndexByteString", "internal/bytealg.IndexString"], unfollowed := true, recurses := true, named := ["internal/bytealg.MaxLen"], apart := false }
def VfsNamesSaid : Prop := vfsNamesRow.holds Try.pinned (OpenSpec.ofChange vfsNamesSpec)

/-- ITS FALSE NEIGHBOUR: 'it returns false'. Refute it at one input. -/
def vfsNamesWrong : ChangeSpec := { name := "vfsNames", fn := fun _ => fun
  | [d] => { results := [.lit (.bool false)], args := [d] }
  | _ => none }
def VfsNamesWrongFalsely : Prop := vfsNamesRow.holds Try.pinned (OpenSpec.ofChange vfsNamesWrong)

/-- 'domesdaylaw06.VfsMany': WHATEVER THE INPUT: true; the input reads as it did. -/
def vfsManySpec : ChangeSpec := { name := "vfsMany", fn := fun _ => fun
  | [d1, d2] => { results := [.lit (.bool true)], args := [d1, d2] }
  | _ => none }
def vfsManyRow : OpenClaim := { program := "ytlfldoghomnbkaa", sum := "91a1bc8bdb092b0ed764878d717f173cb168234a993d87df184dac353a070031", func := "domesday/domesdaylaw06.VfsMany", spec := "vfsMany", inPlace := ["internal/bytealg.IndexByteString", "internal/bytealg.IndexString"], unfollowed := true, recurses := true, named := ["internal/bytealg.MaxLen"], apart := false }
def VfsManySaid : Prop := vfsManyRow.holds Try.pinned (OpenSpec.ofChange vfsManySpec)

/-- ITS FALSE NEIGHBOUR: 'it returns false'. Refute it at one input. -/
def vfsManyWrong : ChangeSpec := { name := "vfsMany", fn := fun _ => fun
  | [d1, d2] => { results := [.lit (.bool false)], args := [d1, d2] }
  | _ => none }
def VfsManyWrongFalsely : Prop := vfsManyRow.holds Try.pinned (OpenSpec.ofChange vfsManyWrong)

/-- 'domesdaylaw06.VfsDevices': WHATEVER THE INPUT: true; the input reads as it did. -/
def vfsDevicesSpec : ChangeSpec := { name := "vfsDevices", fn := fun _ => fun
  | [d] => { results := [.lit (.bool true)], args := [d] }
  | _ => none }
def vfsDevicesRow : OpenClaim := { program := "ytlfldoghomnbkaa", sum := "91a1bc8bdb092b0ed764878d717f173cb168234a993d87df184dac353a070031", func := "domesday/domesdaylaw06.VfsDevices", spec := "vfsDevices", inPlace := ["internal/bytealg.IndexByteString", "internal/bytealg.IndexString"], unfollowed := true, recurses := true, named := ["internal/bytealg.MaxLen"], apart := false }
def VfsDevicesSaid : Prop := vfsDevicesRow.holds Try.pinned (OpenSpec.ofChange vfsDevicesSpec)

/-- ITS FALSE NEIGHBOUR: 'it returns false'. Refute it at one input. -/
def vfsDevicesWrong : ChangeSpec := { name := "vfsDevices", fn := fun _ => fun
  | [d] => { results := [.lit (.bool false)], args := [d] }
  | _ => none }
def VfsDevicesWrongFalsely : Prop := vfsDevicesRow.holds Try.pinned (OpenSpec.ofChange vfsDevicesWrong)

/-- 'domesdaylaw06.VfsBuilds': WHATEVER THE INPUT: true; the input reads as it did. -/
def vfsBuildsSpec : ChangeSpec := { name := "vfsBuilds", fn := fun _ => fun
  | [d] => { results := [.lit (.bool true)], args := [d] }
  | _ => none }
def vfsBuildsRow : OpenClaim := { program := "ytlfldoghomnbkaa", sum := "91a1bc8bdb092b0ed764878d717f173cb168234a993d87df184dac353a070031", func := "domesday/domesdaylaw06.VfsBuilds", spec := "vfsBuilds", inPlace := ["internal/bytealg.IndexByteString", "internal/bytealg.IndexString"], unfollowed := true, recurses := true, named := ["internal/bytealg.MaxLen"], apart := false }
def VfsBuildsSaid : Prop := vfsBuildsRow.holds Try.pinned (OpenSpec.ofChange vfsBuildsSpec)

/-- ITS FALSE NEIGHBOUR: 'it returns false'. Refute it at one input. -/
def vfsBuildsWrong : ChangeSpec := { name := "vfsBuilds", fn := fun _ => fun
  | [d] => { results := [.lit (.bool false)], args := [d] }
  | _ => none }
def VfsBuildsWrongFalsely : Prop := vfsBuildsRow.holds Try.pinned (OpenSpec.ofChange vfsBuildsWrong)

/-- 'domesdaylaw06.VfsSame': WHATEVER THE INPUT: true; the input reads as it did. -/
def vfsSameSpec : ChangeSpec := { name := "vfsSame", fn := fun _ => fun
  | [d1, d2] => { results := [.lit (.bool true)], args := [d1, d2] }
  | _ => none }
def vfsSameRow : OpenClaim := { program := "ytlfldoghomnbkaa", sum := "91a1bc8bdb092b0ed764878d717f173cb168234a993d87df184dac353a070031", func := "domesday/domesdaylaw06.VfsSame", spec := "vfsSame", inPlace := ["internal/bytealg.IndexByteString", "internal/bytealg.IndexString"], unfollowed := true, recurses := true, named := ["internal/bytealg.MaxLen"], apart := false }
def VfsSameSaid : Prop := vfsSameRow.holds Try.pinned (OpenSpec.ofChange vfsSameSpec)

/-- ITS FALSE NEIGHBOUR: 'it returns false'. Refute it at one input. -/
def vfsSameWrong : ChangeSpec := { name := "vfsSame", fn := fun _ => fun
  | [d1, d2] => { results := [.lit (.bool false)], args := [d1, d2] }
  | _ => none }
def VfsSameWrongFalsely : Prop := vfsSameRow.holds Try.pinned (OpenSpec.ofChange vfsSameWrong)

/- THE SECOND FORM. 'bulk': how many values and letters a reading holds, each counted each time it is reached (what is shared counts as often as it is met; a slice's spare places count too). A statement '..UptoSaid' is the law's where the arguments, and the package variables that the reading takes, are together of bulk at most 1048576: NARROWER than '..Said'. Prove '..Said' where nothing that the law and all that it calls make is longer than what came in: it says more and counts as full. Else prove '..UptoSaid'. A law counts once. -/
mutual
def uptoBulk {H : Type} : DataW H → Nat
  | .lit (.string bytes) => bytes.length + 1
  | .lit _ => 1
  | .nil => 1
  | .ptr d => uptoBulk d + 1
  | .slice elems spare => uptoBulkAll elems + uptoBulkAll spare + 1
  | .agg parts => uptoBulkAll parts + 1
  | .iface _ d => uptoBulk d + 1
  | .map entries => uptoBulkEntries entries + 1
  | .held _ => 1
def uptoBulkAll {H : Type} : List (DataW H) → Nat
  | [] => 0
  | d :: r => uptoBulk d + uptoBulkAll r
def uptoBulkEntries {H : Type} : List (Lit × DataW H) → Nat
  | [] => 0
  | x :: r => uptoBulkEntry x + uptoBulkEntries r
def uptoBulkEntry {H : Type} : Lit × DataW H → Nat
  | (.string bytes, d) => bytes.length + uptoBulk d + 1
  | (_, d) => uptoBulk d + 1
 end
def uptoSmall : (H : Type) → List (DataW H) → Bool := fun _ ds => decide (uptoBulkAll ds ≤ 1048576)
def OpenSpec.upto (s : _root_.Go.ChangeSpec) : _root_.Go.OpenSpec := { _root_.Go.OpenSpec.ofChange s with cond := some uptoSmall }

/-- 'domesdaylaw06.VfsNames', WHERE WHAT IT READS IS OF BULK AT MOST 1048576: true; the input reads as it did. -/
def vfsNamesUptoRow : OpenClaim := { program := "ytlfldoghomnbkaa", sum := "91a1bc8bdb092b0ed764878d717f173cb168234a993d87df184dac353a070031", func := "domesday/domesdaylaw06.VfsNames", spec := "vfsNames", inPlace := ["internal/bytealg.IndexByteString", "internal/bytealg.IndexString"], unfollowed := true, recurses := true, named := ["internal/bytealg.MaxLen"], apart := false, narrowed := true }
def VfsNamesUptoSaid : Prop := vfsNamesUptoRow.holds Try.pinned (OpenSpec.upto vfsNamesSpec)

/-- 'domesdaylaw06.VfsMany', WHERE WHAT IT READS IS OF BULK AT MOST 1048576: true; the input reads as it did. -/
def vfsManyUptoRow : OpenClaim := { program := "ytlfldoghomnbkaa", sum := "91a1bc8bdb092b0ed764878d717f173cb168234a993d87df184dac353a070031", func := "domesday/domesdaylaw06.VfsMany", spec := "vfsMany", inPlace := ["internal/bytealg.IndexByteString", "internal/bytealg.IndexString"], unfollowed := true, recurses := true, named := ["internal/bytealg.MaxLen"], apart := false, narrowed := true }
def VfsManyUptoSaid : Prop := vfsManyUptoRow.holds Try.pinned (OpenSpec.upto vfsManySpec)

/-- 'domesdaylaw06.VfsDevices', WHERE WHAT IT READS IS OF BULK AT MOST 1048576: true; the input reads as it did. -/
def vfsDevicesUptoRow : OpenClaim := { program := "ytlfldoghomnbkaa", sum := "91a1bc8bdb092b0ed764878d717f173cb168234a993d87df184dac353a070031", func := "domesday/domesdaylaw06.VfsDevices", spec := "vfsDevices", inPlace := ["internal/bytealg.IndexByteString", "internal/bytealg.IndexString"], unfollowed := true, recurses := true, named := ["internal/bytealg.MaxLen"], apart := false, narrowed := true }
def VfsDevicesUptoSaid : Prop := vfsDevicesUptoRow.holds Try.pinned (OpenSpec.upto vfsDevicesSpec)

/-- 'domesdaylaw06.VfsBuilds', WHERE WHAT IT READS IS OF BULK AT MOST 1048576: true; the input reads as it did. -/
def vfsBuildsUptoRow : OpenClaim := { program := "ytlfldoghomnbkaa", sum := "91a1bc8bdb092b0ed764878d717f173cb168234a993d87df184dac353a070031", func := "domesday/domesdaylaw06.VfsBuilds", spec := "vfsBuilds", inPlace := ["internal/bytealg.IndexByteString", "internal/bytealg.IndexString"], unfollowed := true, recurses := true, named := ["internal/bytealg.MaxLen"], apart := false, narrowed := true }
def VfsBuildsUptoSaid : Prop := vfsBuildsUptoRow.holds Try.pinned (OpenSpec.upto vfsBuildsSpec)

/-- 'domesdaylaw06.VfsSame', WHERE WHAT IT READS IS OF BULK AT MOST 1048576: true; the input reads as it did. -/
def vfsSameUptoRow : OpenClaim := { program := "ytlfldoghomnbkaa", sum := "91a1bc8bdb092b0ed764878d717f173cb168234a993d87df184dac353a070031", func := "domesday/domesdaylaw06.VfsSame", spec := "vfsSame", inPlace := ["internal/bytealg.IndexByteString", "internal/bytealg.IndexString"], unfollowed := true, recurses := true, named := ["internal/bytealg.MaxLen"], apart := false, narrowed := true }
def VfsSameUptoSaid : Prop := vfsSameUptoRow.holds Try.pinned (OpenSpec.upto vfsSameSpec)

end Rows
end Go.Proofs.Ytlfldoghomnbkaa
