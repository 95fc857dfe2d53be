/- What a row's world gives the library's functions. -/
import Derived.Test.YtekcgjpmlkngjaaDoorXDig
namespace Go.Proofs.YtekcgjpmlkngjaaDoor.Ext
open Go.RowKit
def Env (w : World) : Prop := Base.TabOk w
theorem Env.below {w w' : World} (h : Env w) (hb : Below w.heap.size w w') : Env w' := Base.TabOk.below h hb
theorem env_of {l : List (String × DataW Unit)} {w : World} (hL : laidMet Tryd.prog l w) (e : l.filter (fun x => x.1 == "internal/strconv.uint64pow10") = [("internal/strconv.uint64pow10", Lib.tabData .u64 Lib.pow10Tab)] := by kernel_rfl) : Env w := Base.tab_of hL e
def strconv_FormatInt.f := Base.strconv_FormatInt.f
theorem strconv_FormatInt.calls (a0 a1 : Int) (r : ByteArray) (w : World) (h : strconv_FormatInt.f a0 a1 = some r) (HE : Env w) :
    Calls Tryd.prog 31 #[.int .i64 a0, .int .i64 a1] w fun e w' => e = .returned (.string r) ∧ Below w.heap.size w w' := Base.strconv_FormatInt.calls a0 a1 r w h HE
end Go.Proofs.YtekcgjpmlkngjaaDoor.Ext
