/- P6.2: there are as many nodes as may be. -/
import Derived.Test.YtlfldoghomnbkaaQMany
namespace Go.Proofs.Ytlfldoghomnbkaa.Pure
open Go.RowKit Go.Proofs.Ytlfldoghomnbkaa.QVfs
theorem VfsMany (dirs : Bool) (l : List Int) (hl : ∀ y ∈ l, (Lit.int .u32 y).wf = true) : domesdaylaw06_VfsMany.f dirs l = some true := by
  unfold domesdaylaw06_VfsMany.f
  rw [if_pos (List.all_eq_true.2 hl)]
end Go.Proofs.Ytlfldoghomnbkaa.Pure
