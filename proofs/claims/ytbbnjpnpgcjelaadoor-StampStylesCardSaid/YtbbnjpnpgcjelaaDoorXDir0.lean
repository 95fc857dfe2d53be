/- A Format that says nothing: what a directive's text is before Format is known (neither F nor T). -/
import Derived.Test.YtbbnjpnpgcjelaaDoorQStm0
import Derived.Test.YtbbnjpnpgcjelaaDoorXStmA
namespace Go.Proofs.YtbbnjpnpgcjelaaDoor.QStm.D0
open Go.RowKit Go.Shelf Go.Lib Go.Proofs.YtbbnjpnpgcjelaaDoorW.PrintWords Go.Proofs.YtbbnjpnpgcjelaaDoorW.PrintLast Go.Proofs.YtbbnjpnpgcjelaaDoorW.PrintMore
set_option linter.unusedVariables false
def stamp_Format.f (k : Nat) (a0 : ByteArray) (a1 a2 : Int) : Option ByteArray := none
theorem stamp_Format.mono : ∀ a0 a1 a2 k, LeO (stamp_Format.f k a0 a1 a2) (stamp_Format.f (k + 1) a0 a1 a2) := fun _ _ _ _ => LeO.refl _
theorem stamp_Format.calls (k : Nat) (a0 : ByteArray) (a1 a2 : Int) (r : ByteArray) (w : World) (h : stamp_Format.f k a0 a1 a2 = some r) (HE : Env w) :
    Calls Tryd.prog 10 #[.string a0, .int .i64 a1, .int .i64 a2] w fun e w' => e = .returned (.string r) ∧ Below w.heap.size w w' := by
  cases h
end Go.Proofs.YtbbnjpnpgcjelaaDoor.QStm.D0
