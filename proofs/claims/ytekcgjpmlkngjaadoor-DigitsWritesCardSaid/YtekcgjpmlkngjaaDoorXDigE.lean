/- What a row's world gives the library's functions. -/
import Derived.Test.YtekcgjpmlkngjaaDoorXDig
namespace Go.Proofs.YtekcgjpmlkngjaaDoor.Ext
open Go.RowKit
def Env (w : World) : Prop := Base.TabOk w ∧ Base.HasErr w 2 ∧ Base.HasErr w 3 ∧ Base.Tz w
theorem Env.below {w w' : World} (h : Env w) (hb : Below w.heap.size w w') : Env w' := ⟨Base.TabOk.below h.1 hb, h.2.1.below hb, h.2.2.1.below hb, h.2.2.2.below hb⟩
theorem env_of {w : World} (hL : laidMet Tryd.prog Rows.digitsReadsRow.laid w) : Env w :=
  ⟨Base.tab_of hL (by kernel_rfl), Base.err_of hL (n := "strconv.ErrSyntax") (by kernel_rfl) (.tail _ (.tail _ (.tail _ (.tail _ (.head _))))) (by kernel_rfl), Base.err_of hL (n := "strconv.ErrRange") (by kernel_rfl) (.tail _ (.tail _ (.tail _ (.head _)))) (by kernel_rfl), Base.tz_of hL (by kernel_rfl)⟩
def strconv_FormatInt.f := Base.strconv_FormatInt.f
theorem strconv_FormatInt.calls (a0 a1 : Int) (r : ByteArray) (w : World) (h : strconv_FormatInt.f a0 a1 = some r) (HE : Env w) :
    Calls Tryd.prog 31 #[.int .i64 a0, .int .i64 a1] w fun e w' => e = .returned (.string r) ∧ Below w.heap.size w w' := Base.strconv_FormatInt.calls a0 a1 r w h HE.1
end Go.Proofs.YtekcgjpmlkngjaaDoor.Ext
