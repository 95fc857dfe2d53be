-- Made by a program of this session.
import Derived.Test.YtkhbgfnbkdonlaaDoorProg
import Derived.Below
import Derived.Deep.Draws
import Derived.Deep.AppendLies
import Derived.Maps.AppendAt
import Derived.OwnWalk
import Derived.Laws.BytesArg
import Derived.Laws.MakeOwn
import Derived.Laws.OwnMore
import Derived.Deep.OwnRows
import Derived.Tactics
import Derived.Lib.ConvBytes
import Derived.Laws.Slices
import Derived.WalkKit
import Derived.KernelRfl
import Derived.RowKit3
import Derived.Deep.LoopGhost
import Derived.Deep.QuietTactic
import Derived.BigQuiet
import Derived.WideLaws
import Derived.Deep.DeepCutAuto
import Derived.Deep.CutBlock
import Derived.Deep.RegionHeld3
import Derived.Laws.Rows
import Derived.Lib.AppendStr
import Derived.ArgAppend
import Derived.Laws.IdiomCopy
import Derived.OrdersHeld
import Derived.Laws.BitsLemmas
import Derived.RowKit
import Derived.Test.YtkhbgfnbkdonlaaDoorWWords
import Derived.Test.YtkhbgfnbkdonlaaDoorWLast
import Derived.Test.YtkhbgfnbkdonlaaDoorWTab
import Derived.Test.YtkhbgfnbkdonlaaDoorWFour
import Derived.Test.YtkhbgfnbkdonlaaDoorWQPut
import Derived.Test.YtkhbgfnbkdonlaaDoorWApart
import Derived.Test.YtkhbgfnbkdonlaaDoorWArr
import Derived.Test.YtkhbgfnbkdonlaaDoorWZeros
import Derived.Test.YtkhbgfnbkdonlaaDoorWFoot
import Derived.Test.YtkhbgfnbkdonlaaDoorWKept
import Derived.Test.YtkhbgfnbkdonlaaDoorWShare
import Derived.Test.YtkhbgfnbkdonlaaDoorWN
import Derived.Test.YtkhbgfnbkdonlaaDoorWFootNe
import Derived.Test.YtkhbgfnbkdonlaaDoorWAt
import Derived.Test.YtkhbgfnbkdonlaaDoorWEqStruct
import Derived.Test.YtkhbgfnbkdonlaaDoorWRepsOne
import Derived.Test.YtkhbgfnbkdonlaaDoorWInv
import Derived.Test.YtkhbgfnbkdonlaaDoorWInvWords
import Derived.Test.YtkhbgfnbkdonlaaDoorWGuard
import Derived.Test.YtkhbgfnbkdonlaaDoorWNEv
import Derived.Test.YtkhbgfnbkdonlaaDoorWMore
import Derived.Test.YtkhbgfnbkdonlaaDoorVArr
namespace Go.Proofs.YtkhbgfnbkdonlaaDoor.QQuo
open Go.RowKit Go.Proofs.YtkhbgfnbkdonlaaDoorW.PrintWords Go.Proofs.YtkhbgfnbkdonlaaDoorW.PrintLast Go.Proofs.YtkhbgfnbkdonlaaDoorW.PrintMore
attribute [local go_sem] max2_int min2_int max_two min_two max_three min_three max_four min_four   -- for this text's walks alone
set_option linter.unusedVariables false
set_option linter.unusedSimpArgs false



def errW : Option Int → Value
  | none => .nilIface
  | some c => .iface 0 (.int .i64 c)
theorem errW_none : errW none = .nilIface := rfl
theorem errW_some (c : Int) : errW (some c) = .iface 0 (.int .i64 c) := rfl

theorem info36 : (Tryd.prog.info? 36).map (fun i => (i.zero, i.size, i.bytes)) = some (some (.int .i64 0), 1, 8) := by kernel_rfl
theorem info3 : (Tryd.prog.info? 3).map (fun i => (i.zero, i.size, i.bytes)) = some (some (.int .i64 0), 1, 8) := by kernel_rfl
theorem info5 : (Tryd.prog.info? 5).map (fun i => (i.zero, i.size, i.bytes)) = some (some (.int .u8 0), 1, 1) := by kernel_rfl
-- the values' own types

end Go.Proofs.YtkhbgfnbkdonlaaDoor.QQuo
