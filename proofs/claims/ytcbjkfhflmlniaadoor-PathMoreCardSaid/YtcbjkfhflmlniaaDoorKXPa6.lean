import Derived.Test.YtcbjkfhflmlniaaDoorKXPa5
import Derived.Test.YtcbjkfhflmlniaaDoorKVf13
-- Texts of this seat, what the claim does not reach struck out by a program.
namespace Go.Proofs.YtcbjkfhflmlniaaDoor.QVfs
open Go.RowKit Go.Proofs.YtcbjkfhflmlniaaDoorW.PrintWords Go.Proofs.YtcbjkfhflmlniaaDoorW.PrintLast Go.Proofs.YtcbjkfhflmlniaaDoorW.PrintMore
set_option linter.unusedVariables false
set_option linter.unusedSimpArgs false
def nm (k : Nat) : ByteArray := if k < 10 then ⟨#[108, UInt8.ofNat (48 + k)]⟩ else ⟨#[108, UInt8.ofNat (48 + k / 10), UInt8.ofNat (48 + k % 10)]⟩
end Go.Proofs.YtcbjkfhflmlniaaDoor.QVfs
