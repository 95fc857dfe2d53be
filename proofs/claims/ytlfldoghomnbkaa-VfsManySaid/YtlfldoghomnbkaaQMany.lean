/- VfsMany as its row calls it. -/
import Derived.Test.YtlfldoghomnbkaaMany2
namespace Go.Proofs.Ytlfldoghomnbkaa.QVfs
open Go.RowKit Go.Proofs.YtlfldoghomnbkaaW.PrintWords Go.Proofs.YtlfldoghomnbkaaW.PrintLast Go.Proofs.YtlfldoghomnbkaaW.PrintMore
set_option linter.unusedVariables false

def domesdaylaw06_VfsMany.f (dirs : Bool) (l : List Int) : Option Bool := if (l.all fun y => (Lit.int .u32 y).wf) = true then some true else none
theorem domesdaylaw06_VfsMany.calls (dirs : Bool) (A : Option Addr) (c : Nat) (l : List Int) (r : Bool) (w : World) (hC : Kd.C (Kd.int .u32) w A l.length l) (hc : l.length ≤ c) (h : domesdaylaw06_VfsMany.f dirs l = some r) :
    Calls Try.prog 4 #[.bool dirs, .slice A l.length c] w fun e w' => e = .returned (.bool r) ∧ Below w.heap.size w w' := by
  unfold domesdaylaw06_VfsMany.f at h
  split at h
  · rename_i hw
    obtain rfl := Option.some.inj h
    have hU : U32s l := fun y hy => by
      have := List.all_eq_true.1 hw y hy
      simp [Lit.wf, IntKind.min, IntKind.max, IntKind.signed, IntKind.bits] at this
      omega
    cases dirs
    · exact many_false A c l w hC hc hU
    · exact many_true A c l w hC hc hU
  · cases h
end Go.Proofs.Ytlfldoghomnbkaa.QVfs
