/- awake and vfs.Good as the printed laws call them. -/
import Derived.Test.YtlfldoghomnbkaaNAwake
import Derived.Test.YtlfldoghomnbkaaXGood
namespace Go.Proofs.Ytlfldoghomnbkaa.QVfs
open Go.RowKit Go.Proofs.YtlfldoghomnbkaaW.PrintWords Go.Proofs.YtlfldoghomnbkaaW.PrintLast Go.Proofs.YtlfldoghomnbkaaW.PrintMore
set_option linter.unusedVariables false

def domesdaylaw06_awake.f : Option Bool := some true
theorem domesdaylaw06_awake.calls (r : Bool) (w : World) (h : domesdaylaw06_awake.f = some r) : Calls Try.prog 8 #[] w fun e w' => e = .returned (.bool r) ∧ Below w.heap.size w w' := by
  obtain rfl := Option.some.inj h
  exact awake_calls w
def vfs_Good.f (s : ByteArray) : Option Bool := if s.size ≤ 1000000 then some (goodB s) else none
theorem vfs_Good.calls (s : ByteArray) (r : Bool) (w : World) (h : vfs_Good.f s = some r) : Calls Try.prog 9 #[.string s] w fun e w' => e = .returned (.bool r) ∧ Below w.heap.size w w' := by
  unfold vfs_Good.f at h
  split at h
  · rename_i hs
    obtain rfl := Option.some.inj h
    exact good_calls s w hs
  · cases h
end Go.Proofs.Ytlfldoghomnbkaa.QVfs
