-- Made by a program of this session.
import Derived.Test.YtngcecmfgjgigaaDoorProg
import Derived.Below
import Derived.Deep.Draws
import Derived.Deep.AppendLies
import Derived.Maps.AppendAt
import Derived.OwnWalk
import Derived.Laws.BytesArg
import Derived.Laws.MakeOwn
import Derived.Laws.OwnMore
import Derived.Deep.OwnRows
import Derived.Tactics
import Derived.Lib.ConvBytes
import Derived.Laws.Slices
import Derived.WalkKit
import Derived.KernelRfl
import Derived.RowKit3
import Derived.Deep.LoopGhost
import Derived.Deep.QuietTactic
import Derived.BigQuiet
import Derived.WideLaws
import Derived.Deep.DeepCutAuto
import Derived.Deep.CutBlock
import Derived.Deep.RegionHeld3
import Derived.Laws.Rows
import Derived.Lib.AppendStr
import Derived.ArgAppend
import Derived.Laws.IdiomCopy
import Derived.OrdersHeld
import Derived.Laws.BitsLemmas
import Derived.RowKit
import Derived.Test.YtngcecmfgjgigaaDoorXWidth
import Derived.Test.YtngcecmfgjgigaaDoorXRefW
import Derived.Test.YtngcecmfgjgigaaDoorWWords
import Derived.Test.YtngcecmfgjgigaaDoorWLast
import Derived.Test.YtngcecmfgjgigaaDoorWTab
import Derived.Test.YtngcecmfgjgigaaDoorWFour
import Derived.Test.YtngcecmfgjgigaaDoorWQPut
import Derived.Test.YtngcecmfgjgigaaDoorWApart
import Derived.Test.YtngcecmfgjgigaaDoorWArr
import Derived.Test.YtngcecmfgjgigaaDoorWZeros
import Derived.Test.YtngcecmfgjgigaaDoorWFoot
import Derived.Test.YtngcecmfgjgigaaDoorWKept
import Derived.Test.YtngcecmfgjgigaaDoorWShare
import Derived.Test.YtngcecmfgjgigaaDoorWN
import Derived.Test.YtngcecmfgjgigaaDoorWFootNe
import Derived.Test.YtngcecmfgjgigaaDoorWAt
import Derived.Test.YtngcecmfgjgigaaDoorWEqStruct
import Derived.Test.YtngcecmfgjgigaaDoorWRepsOne
import Derived.Test.YtngcecmfgjgigaaDoorWInv
import Derived.Test.YtngcecmfgjgigaaDoorWInvWords
import Derived.Test.YtngcecmfgjgigaaDoorWGuard
import Derived.Test.YtngcecmfgjgigaaDoorWNEv
import Derived.Test.YtngcecmfgjgigaaDoorWMore
import Derived.Test.YtngcecmfgjgigaaDoorVArr
namespace Go.Proofs.YtngcecmfgjgigaaDoor.QWidthTexts
open Go.RowKit Go.Proofs.YtngcecmfgjgigaaDoorW.PrintWords Go.Proofs.YtngcecmfgjgigaaDoorW.PrintLast Go.Proofs.YtngcecmfgjgigaaDoorW.PrintMore
attribute [local go_sem] max2_int min2_int max_two min_two max_three min_three max_four min_four   -- for this text's walks alone
open Go.Proofs.YtngcecmfgjgigaaDoor.Ext
set_option linter.unusedVariables false
set_option linter.unusedSimpArgs false



def errW : Option Int → Value
  | none => .nilIface
  | some c => .iface 0 (.int .i64 c)
theorem errW_none : errW none = .nilIface := rfl
theorem errW_some (c : Int) : errW (some c) = .iface 0 (.int .i64 c) := rfl

-- the values' own types

end Go.Proofs.YtngcecmfgjgigaaDoor.QWidthTexts
