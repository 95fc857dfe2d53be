-- Made by a program of this session.
import Derived.Test.YtekcgjpmlkngjaaDoorProg
import Derived.Below
import Derived.Deep.Draws
import Derived.Deep.AppendLies
import Derived.Maps.AppendAt
import Derived.OwnWalk
import Derived.Laws.BytesArg
import Derived.Laws.MakeOwn
import Derived.Laws.OwnMore
import Derived.Deep.OwnRows
import Derived.Tactics
import Derived.Lib.ConvBytes
import Derived.Laws.Slices
import Derived.WalkKit
import Derived.KernelRfl
import Derived.RowKit3
import Derived.Deep.LoopGhost
import Derived.Deep.QuietTactic
import Derived.BigQuiet
import Derived.WideLaws
import Derived.Deep.DeepCutAuto
import Derived.Deep.CutBlock
import Derived.Deep.RegionHeld3
import Derived.Laws.Rows
import Derived.Lib.AppendStr
import Derived.ArgAppend
import Derived.Laws.IdiomCopy
import Derived.OrdersHeld
import Derived.Laws.BitsLemmas
import Derived.RowKit
import Derived.Test.YtekcgjpmlkngjaaDoorXDigRead
import Derived.Test.YtekcgjpmlkngjaaDoorXDigHex
import Derived.Test.YtekcgjpmlkngjaaDoorVArr
import Derived.Test.YtekcgjpmlkngjaaDoorWWords
import Derived.Test.YtekcgjpmlkngjaaDoorWLast
import Derived.Test.YtekcgjpmlkngjaaDoorWTab
import Derived.Test.YtekcgjpmlkngjaaDoorWFour
import Derived.Test.YtekcgjpmlkngjaaDoorWQPut
import Derived.Test.YtekcgjpmlkngjaaDoorWApart
import Derived.Test.YtekcgjpmlkngjaaDoorWArr
import Derived.Test.YtekcgjpmlkngjaaDoorWZeros
import Derived.Test.YtekcgjpmlkngjaaDoorWFoot
import Derived.Test.YtekcgjpmlkngjaaDoorWKept
import Derived.Test.YtekcgjpmlkngjaaDoorWShare
import Derived.Test.YtekcgjpmlkngjaaDoorWN
import Derived.Test.YtekcgjpmlkngjaaDoorWFootNe
import Derived.Test.YtekcgjpmlkngjaaDoorWAt
import Derived.Test.YtekcgjpmlkngjaaDoorWEqStruct
import Derived.Test.YtekcgjpmlkngjaaDoorWRepsOne
import Derived.Test.YtekcgjpmlkngjaaDoorWInv
import Derived.Test.YtekcgjpmlkngjaaDoorWInvWords
import Derived.Test.YtekcgjpmlkngjaaDoorWGuard
import Derived.Test.YtekcgjpmlkngjaaDoorWNEv
import Derived.Test.YtekcgjpmlkngjaaDoorWMore
import Derived.Test.YtekcgjpmlkngjaaDoorVArr
namespace Go.Proofs.YtekcgjpmlkngjaaDoor.QDigitsWrites
open Go.RowKit Go.Proofs.YtekcgjpmlkngjaaDoorW.PrintWords Go.Proofs.YtekcgjpmlkngjaaDoorW.PrintLast Go.Proofs.YtekcgjpmlkngjaaDoorW.PrintMore
attribute [local go_sem] max2_int min2_int max_two min_two max_three min_three max_four min_four   -- for this text's walks alone
open Go.Proofs.YtekcgjpmlkngjaaDoor.Ext
set_option linter.unusedVariables false
set_option linter.unusedSimpArgs false



def errW : Option Int → Value
  | none => .nilIface
  | some c => .iface 0 (.int .i64 c)
theorem errW_none : errW none = .nilIface := rfl
theorem errW_some (c : Int) : errW (some c) = .iface 0 (.int .i64 c) := rfl

-- the values' own types

end Go.Proofs.YtekcgjpmlkngjaaDoor.QDigitsWrites
