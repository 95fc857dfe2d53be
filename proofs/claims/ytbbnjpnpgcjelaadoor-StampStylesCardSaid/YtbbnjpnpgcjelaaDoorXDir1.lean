/- Format over texts whose directives are neither F nor T. -/
import Derived.Test.YtbbnjpnpgcjelaaDoorXFmt
import Derived.Test.YtbbnjpnpgcjelaaDoorQDir0
namespace Go.Proofs.YtbbnjpnpgcjelaaDoor.QStm.D1
open Go.RowKit Go.Shelf Go.Lib Go.Proofs.YtbbnjpnpgcjelaaDoorW.PrintWords Go.Proofs.YtbbnjpnpgcjelaaDoorW.PrintLast Go.Proofs.YtbbnjpnpgcjelaaDoorW.PrintMore
set_option linter.unusedVariables false
def stamp_Format.f (k : Nat) (a0 : ByteArray) (a1 a2 : Int) : Option ByteArray := fmtF (fun c => D0.stamp_directive.f k c a1 a2) a0
theorem stamp_Format.mono : ∀ a0 a1 a2 k, LeO (stamp_Format.f k a0 a1 a2) (stamp_Format.f (k + 1) a0 a1 a2) := fun a0 a1 a2 k => fmtF_mono (fun c => D0.stamp_directive.mono c a1 a2 k) a0
theorem stamp_Format.calls (k : Nat) (a0 : ByteArray) (a1 a2 : Int) (r : ByteArray) (w : World) (h : stamp_Format.f k a0 a1 a2 = some r) (HE : Env w) :
    Calls Tryd.prog 10 #[.string a0, .int .i64 a1, .int .i64 a2] w fun e w' => e = .returned (.string r) ∧ Below w.heap.size w w' :=
  format_of _ a1 a2 (fun c e b W h hE => D0.stamp_directive.calls k c a1 a2 e b W h hE) a0 r w h HE
end Go.Proofs.YtbbnjpnpgcjelaaDoor.QStm.D1
