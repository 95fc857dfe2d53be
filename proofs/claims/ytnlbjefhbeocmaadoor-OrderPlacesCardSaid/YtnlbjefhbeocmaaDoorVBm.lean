/- A row of marks told by one number: bit i is mark i. -/
import Derived.RowKit3
namespace Go.Proofs.YtnlbjefhbeocmaaDoorW.PrintMore
def bm (n m : Nat) : Array Bool := ((List.range n).map fun i => Nat.testBit m i).toArray
end Go.Proofs.YtnlbjefhbeocmaaDoorW.PrintMore
