-- Made by a program of this session.
import Derived.Test.YtngcecmfgjgigaaProg
import Derived.Below
import Derived.Deep.Draws
import Derived.Deep.AppendLies
import Derived.Maps.AppendAt
import Derived.OwnWalk
import Derived.Laws.BytesArg
import Derived.Laws.MakeOwn
import Derived.Laws.OwnMore
import Derived.Deep.OwnRows
import Derived.Tactics
import Derived.Lib.ConvBytes
import Derived.Laws.Slices
import Derived.WalkKit
import Derived.KernelRfl
import Derived.RowKit3
import Derived.Deep.LoopGhost
import Derived.Deep.QuietTactic
import Derived.BigQuiet
import Derived.WideLaws
import Derived.Deep.DeepCutAuto
import Derived.Deep.CutBlock
import Derived.Deep.RegionHeld3
import Derived.Laws.Rows
import Derived.Lib.AppendStr
import Derived.ArgAppend
import Derived.Laws.IdiomCopy
import Derived.OrdersHeld
import Derived.Laws.BitsLemmas
import Derived.RowKit
import Derived.Test.YtngcecmfgjgigaaXThree
import Derived.Test.YtngcecmfgjgigaaWWords
import Derived.Test.YtngcecmfgjgigaaWLast
import Derived.Test.YtngcecmfgjgigaaWTab
import Derived.Test.YtngcecmfgjgigaaWFour
import Derived.Test.YtngcecmfgjgigaaWQPut
import Derived.Test.YtngcecmfgjgigaaWApart
import Derived.Test.YtngcecmfgjgigaaWArr
import Derived.Test.YtngcecmfgjgigaaWZeros
import Derived.Test.YtngcecmfgjgigaaWFoot
import Derived.Test.YtngcecmfgjgigaaWKept
import Derived.Test.YtngcecmfgjgigaaWShare
import Derived.Test.YtngcecmfgjgigaaWN
import Derived.Test.YtngcecmfgjgigaaWFootNe
import Derived.Test.YtngcecmfgjgigaaWAt
import Derived.Test.YtngcecmfgjgigaaWEqStruct
import Derived.Test.YtngcecmfgjgigaaWRepsOne
import Derived.Test.YtngcecmfgjgigaaWInv
import Derived.Test.YtngcecmfgjgigaaWInvWords
import Derived.Test.YtngcecmfgjgigaaWGuard
import Derived.Test.YtngcecmfgjgigaaWNEv
import Derived.Test.YtngcecmfgjgigaaWMore
import Derived.Test.YtngcecmfgjgigaaVArr
namespace Go.Proofs.Ytngcecmfgjgigaa.QDateNext
open Go.RowKit Go.Proofs.YtngcecmfgjgigaaW.PrintWords Go.Proofs.YtngcecmfgjgigaaW.PrintLast Go.Proofs.YtngcecmfgjgigaaW.PrintMore
attribute [local go_sem] max2_int min2_int max_two min_two max_three min_three max_four min_four   -- for this text's walks alone
open Go.Proofs.Ytngcecmfgjgigaa.Ext
set_option linter.unusedVariables false
set_option linter.unusedSimpArgs false



def errW : Option Int → Value
  | none => .nilIface
  | some c => .iface 0 (.int .i64 c)
theorem errW_none : errW none = .nilIface := rfl
theorem errW_some (c : Int) : errW (some c) = .iface 0 (.int .i64 c) := rfl

-- the values' own types

theorem fie37_3 (x0 x1 x2 x3 x4 x5 x6 x7 : Value) (w : World) : (Instr.field 37 (.agg #[x0, x1, x2, x3, x4, x5, x6, x7]) 3).run Try.prog w = .ok x3 w := by kernel_rfl
end Go.Proofs.Ytngcecmfgjgigaa.QDateNext
