/- The library's functions that stamp calls: strconv.FormatInt (base 10), strings.Repeat, as the print calls them; what they ask of the world. -/
import Derived.Test.YtbbnjpnpgcjelaaDoorWMore
import Derived.Test.YtbbnjpnpgcjelaaDoorShelf
import Derived.Test.YtbbnjpnpgcjelaaDoorRows
import Derived.LaidSub
import Derived.LaidLaws
import Derived.Lib.LaidTab
import Derived.Lib.AppendIntMem
namespace Go.Proofs.YtbbnjpnpgcjelaaDoor.QStm
open Go.RowKit Go.Shelf Go.Lib Go.Proofs.YtbbnjpnpgcjelaaDoorW.PrintWords Go.Proofs.YtbbnjpnpgcjelaaDoorW.PrintLast Go.Proofs.YtbbnjpnpgcjelaaDoorW.PrintMore
set_option linter.unusedVariables false
set_option linter.unusedSimpArgs false

/-- strconv's table of the powers of ten stands. -/
def Env (w : World) : Prop := Lib.TabIs Tryd.prog w "internal/strconv.uint64pow10" .u64 Lib.pow10Tab
theorem pow10_named : Tryd.prog.globalNamed "internal/strconv.uint64pow10" = some ((Tryd.prog.globalNamed "internal/strconv.uint64pow10").getD 0) := by kernel_rfl
theorem TabIs_below {P : Program} {n : String} {g : Nat} {k : IntKind} {zs : List Int} {w w' : World} (hg : P.globalNamed n = some g) (h : Lib.TabIs P w n k zs) (hb : Below w.heap.size w w') : Lib.TabIs P w' n k zs := by
  unfold Lib.TabIs World.var? at h ⊢
  rw [hg] at h ⊢
  simp only [Option.bind_some] at h ⊢
  have hlt : g < w.heap.size := by
    rcases Nat.lt_or_ge g w.heap.size with h' | h'
    · exact h'
    · rw [Array.getElem?_eq_none h'] at h; cases h
  rw [hb.block g hlt]
  exact h
theorem Env.below {w w' : World} (h : Env w) (hb : Below w.heap.size w w') : Env w' := TabIs_below pow10_named h hb
def strconv_FormatInt.f (a0 a1 : Int) : Option ByteArray := if -9223372036854775808 ≤ a0 ∧ a0 ≤ 9223372036854775807 ∧ a1 = 10 then some ⟨(Lib.itoa a0).toArray⟩ else none
theorem strconv_FormatInt.calls (a0 a1 : Int) (r : ByteArray) (w : World) (h : strconv_FormatInt.f a0 a1 = some r) (HE : Env w) :
    Calls Tryd.prog 20 #[.int .i64 a0, .int .i64 a1] w fun e w' => e = .returned (.string r) ∧ Below w.heap.size w w' := by
  unfold strconv_FormatInt.f at h
  split at h
  · rename_i g
    obtain ⟨g1, g2, rfl⟩ := g
    obtain rfl := Option.some.inj h
    refine (Tryd.strconv_FormatInt_10 a0 g1 g2 w HE).mono ?_
    rintro e w' ⟨rfl, k, os, rfl⟩
    exact ⟨rfl, Lib.below_grow _ w (Nat.le_refl _) k os⟩
  · cases h
def strings_Repeat.f (a0 : ByteArray) (a1 : Int) : Option ByteArray := if 0 ≤ a1 ∧ a1 ≤ 1000000 ∧ a0.size ≤ 1000000 then some ⟨(Lib.repeatL a0.data.toList a1.toNat).toArray⟩ else none
theorem strings_Repeat.calls (a0 : ByteArray) (a1 : Int) (r : ByteArray) (w : World) (h : strings_Repeat.f a0 a1 = some r) :
    Calls Tryd.prog 38 #[.string a0, .int .i64 a1] w fun e w' => e = .returned (.string r) ∧ Below w.heap.size w w' := by
  unfold strings_Repeat.f at h
  split at h
  · rename_i g
    obtain ⟨g1, g2, g3⟩ := g
    obtain rfl := Option.some.inj h
    obtain ⟨c, rfl⟩ : ∃ c : Nat, a1 = c := ⟨a1.toNat, by omega⟩
    rw [Int.toNat_natCast]
    exact Tryd.strings_Repeat a0 c w (by omega) (by
      have : a0.size * c ≤ 1000000 * 1000000 := Nat.mul_le_mul (by omega) (by omega)
      omega)
  · cases h
/-- What a row lists gives it. -/
theorem env_of {w : World} (hL : laidMet Tryd.prog [("math/bits.deBruijn32tab", Rows.laid_math_bits_deBruijn32tab), ("math/bits.deBruijn64tab", Rows.laid_math_bits_deBruijn64tab), ("internal/strconv.uint64pow10", Rows.laid_internal_strconv_uint64pow10)] w) : Env w := by
  have h := laidMet.filter (fun x => x.1 == "internal/strconv.uint64pow10") hL
  have e : ([("math/bits.deBruijn32tab", Rows.laid_math_bits_deBruijn32tab), ("math/bits.deBruijn64tab", Rows.laid_math_bits_deBruijn64tab), ("internal/strconv.uint64pow10", Rows.laid_internal_strconv_uint64pow10)] : List (String × DataW Unit)).filter (fun x => x.1 == "internal/strconv.uint64pow10") = [("internal/strconv.uint64pow10", Lib.tabData .u64 Lib.pow10Tab)] := by kernel_rfl
  rw [e] at h
  exact Lib.tabIs_of_head pow10_named (t := 73) (e := 54) (n := 20) (by kernel_rfl) Tryd.underlying73 Tryd.underlying54 (by kernel_rfl) (by kernel_rfl) h
end Go.Proofs.YtbbnjpnpgcjelaaDoor.QStm
