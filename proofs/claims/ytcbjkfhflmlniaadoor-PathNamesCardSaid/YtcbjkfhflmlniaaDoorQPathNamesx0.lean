-- Made by a program of this session.
import Derived.Test.YtcbjkfhflmlniaaDoorProg
import Derived.Below
import Derived.Deep.Draws
import Derived.Deep.AppendLies
import Derived.Maps.AppendAt
import Derived.OwnWalk
import Derived.Laws.BytesArg
import Derived.Laws.MakeOwn
import Derived.Laws.OwnMore
import Derived.Deep.OwnRows
import Derived.Tactics
import Derived.Lib.ConvBytes
import Derived.Laws.Slices
import Derived.WalkKit
import Derived.KernelRfl
import Derived.RowKit3
import Derived.Deep.LoopGhost
import Derived.Deep.QuietTactic
import Derived.BigQuiet
import Derived.WideLaws
import Derived.Deep.DeepCutAuto
import Derived.Deep.CutBlock
import Derived.Deep.RegionHeld3
import Derived.Laws.Rows
import Derived.Lib.AppendStr
import Derived.ArgAppend
import Derived.Laws.IdiomCopy
import Derived.OrdersHeld
import Derived.Laws.BitsLemmas
import Derived.RowKit
import Derived.Test.YtcbjkfhflmlniaaDoorXNames
import Derived.Test.YtcbjkfhflmlniaaDoorWWords
import Derived.Test.YtcbjkfhflmlniaaDoorWLast
import Derived.Test.YtcbjkfhflmlniaaDoorWTab
import Derived.Test.YtcbjkfhflmlniaaDoorWFour
import Derived.Test.YtcbjkfhflmlniaaDoorWQPut
import Derived.Test.YtcbjkfhflmlniaaDoorWApart
import Derived.Test.YtcbjkfhflmlniaaDoorWArr
import Derived.Test.YtcbjkfhflmlniaaDoorWZeros
import Derived.Test.YtcbjkfhflmlniaaDoorWFoot
import Derived.Test.YtcbjkfhflmlniaaDoorWKept
import Derived.Test.YtcbjkfhflmlniaaDoorWShare
import Derived.Test.YtcbjkfhflmlniaaDoorWN
import Derived.Test.YtcbjkfhflmlniaaDoorWFootNe
import Derived.Test.YtcbjkfhflmlniaaDoorWAt
import Derived.Test.YtcbjkfhflmlniaaDoorWEqStruct
import Derived.Test.YtcbjkfhflmlniaaDoorWRepsOne
import Derived.Test.YtcbjkfhflmlniaaDoorWInv
import Derived.Test.YtcbjkfhflmlniaaDoorWInvWords
import Derived.Test.YtcbjkfhflmlniaaDoorWGuard
import Derived.Test.YtcbjkfhflmlniaaDoorWNEv
import Derived.Test.YtcbjkfhflmlniaaDoorWMore
import Derived.Test.YtcbjkfhflmlniaaDoorVArr
namespace Go.Proofs.YtcbjkfhflmlniaaDoor.QPathNames
open Go.RowKit Go.Proofs.YtcbjkfhflmlniaaDoorW.PrintWords Go.Proofs.YtcbjkfhflmlniaaDoorW.PrintLast Go.Proofs.YtcbjkfhflmlniaaDoorW.PrintMore
attribute [local go_sem] max2_int min2_int max_two min_two max_three min_three max_four min_four   -- for this text's walks alone
open Go.Proofs.YtcbjkfhflmlniaaDoor.Ext
set_option linter.unusedVariables false
set_option linter.unusedSimpArgs false



def errW : Option Int → Value
  | none => .nilIface
  | some c => .iface 0 (.int .i64 c)
theorem errW_none : errW none = .nilIface := rfl
theorem errW_some (c : Int) : errW (some c) = .iface 0 (.int .i64 c) := rfl

theorem info9 : (Tryd.prog.info? 9).map (fun i => (i.zero, i.size, i.bytes)) = some (some (.string ⟨#[]⟩), 1, 16) := by kernel_rfl
-- the values' own types

end Go.Proofs.YtcbjkfhflmlniaaDoor.QPathNames
