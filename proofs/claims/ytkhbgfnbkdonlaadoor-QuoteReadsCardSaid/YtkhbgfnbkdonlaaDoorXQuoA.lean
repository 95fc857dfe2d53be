/- The library's functions that quote calls: strings.IndexByte, utf8.DecodeRuneInString, strings.ReplaceAll, as the print calls them; what they ask of the world. -/
import Derived.Test.YtkhbgfnbkdonlaaDoorQQuo0
import Derived.Test.YtkhbgfnbkdonlaaDoorShelf
import Derived.Test.YtkhbgfnbkdonlaaDoorRows
import Derived.Lib.TrimU
import Derived.Lib.LaidU8
import Derived.LaidLaws
import Derived.Shelf.Vars
namespace Go.Proofs.YtkhbgfnbkdonlaaDoor.QQuo
open Go.RowKit Go.Shelf Go.Lib Go.Proofs.YtkhbgfnbkdonlaaDoorW.PrintWords Go.Proofs.YtkhbgfnbkdonlaaDoorW.PrintLast Go.Proofs.YtkhbgfnbkdonlaaDoorW.PrintMore
set_option linter.unusedVariables false
set_option linter.unusedSimpArgs false

/-- The two tables of unicode/utf8 stand; bytealg.MaxLen holds a number. -/
def Env (w : World) : Prop := Lib.Utf8Tabs 0 1 w ∧ ∃ m, w.cell? ⟨2, 0, none⟩ = some (.int .i64 m)
theorem Env.below {w w' : World} (h : Env w) (hb : Below w.heap.size w w') : Env w' := by
  obtain ⟨h1, m, h2⟩ := h
  exact ⟨Utf8Tabs_below h1 hb, m, (hb.cell (World.block_lt_of_cell? w _ h2)).trans h2⟩
def strings_IndexByte.f (a0 : ByteArray) (a1 : Int) : Option Int := some (Lib.indexByte a0.data.toList a1.toNat.toUInt8)
theorem strings_IndexByte.calls (a0 : ByteArray) (a1 : Int) (r : Int) (w : World) (h : strings_IndexByte.f a0 a1 = some r) :
    Calls Tryd.prog 27 #[.string a0, .int .u8 a1] w fun e w' => e = .returned (.int .i64 r) ∧ Below w.heap.size w w' := by
  obtain rfl := Option.some.inj h
  refine (Tryd.strings_IndexByte a0 a1 w).mono ?_
  rintro e w' ⟨rfl, rfl⟩
  exact ⟨rfl, Below.refl _ _⟩
def utf8_DecodeRuneInString.f (a0 : ByteArray) : Option (Int × Int) := some (((decodeGo a0).1 : Int), ((decodeGo a0).2 : Int))
theorem utf8_DecodeRuneInString.calls (a0 : ByteArray) (r0 r1 : Int) (w : World) (h : utf8_DecodeRuneInString.f a0 = some (r0, r1)) (HE : Env w) :
    Calls Tryd.prog 30 #[.string a0] w fun e w' => e = .returned (.tuple #[.int .i32 r0, .int .i64 r1]) ∧ Below w.heap.size w w' := by
  have h1 := Option.some.inj h
  obtain ⟨rfl, rfl⟩ := Prod.mk.inj h1
  exact Tryd.utf8_DecodeRuneInString a0 w HE.1
def strings_ReplaceAll.f (a0 a1 a2 : ByteArray) : Option ByteArray :=
  if a0.size ≤ 1000000 ∧ 1 ≤ a1.size ∧ a2.size ≤ 1000 then some ⟨(Lib.replaceAll a0.data.toList a1.data.toList a2.data.toList).toArray⟩ else none
theorem strings_ReplaceAll.calls (a0 a1 a2 : ByteArray) (r : ByteArray) (w : World) (h : strings_ReplaceAll.f a0 a1 a2 = some r) (HE : Env w) :
    Calls Tryd.prog 36 #[.string a0, .string a1, .string a2] w fun e w' => e = .returned (.string r) ∧ Below w.heap.size w w' := by
  unfold strings_ReplaceAll.f at h
  split at h
  · rename_i g
    obtain ⟨g1, g2, g3⟩ := g
    obtain rfl := Option.some.inj h
    obtain ⟨_, m, hm⟩ := HE
    have hmul := Lib.countB_mul_le a1 g2 a0.size a0 (Nat.le_refl _)
    have hc : Lib.countB a0 a1 ≤ 1000000 := Nat.le_trans (Nat.le_trans (Nat.le_mul_of_pos_right _ (by omega)) hmul) g1
    have := Nat.mul_le_mul hc g3
    exact Tryd.strings_ReplaceAll a0 a1 a2 m w (by omega) hm g2 (by omega)
  · cases h
set_option maxRecDepth 100000 in
/-- What a row lists, and the world's shape, give it. -/
theorem env_of {w : World} (hL : laidMet Tryd.prog [("unicode/utf8.acceptRanges", Rows.laid_unicode_utf8_acceptRanges), ("unicode/utf8.first", Rows.laid_unicode_utf8_first)] w) (hS : w.ShapedOpen Tryd.prog) : Env w := by
  refine ⟨utf8Tabs_of_reads Tryd.lays260 ⟨by kernel_rfl, by kernel_rfl, by kernel_rfl, by kernel_rfl, by kernel_rfl, by kernel_rfl, by kernel_rfl⟩ (Lib.laidMet.reads hL (.tail _ (.head _))) (Lib.laidMet.reads hL (.head _)), ?_⟩
  exact cell_of_shapedOpen_int (zero := #[.int .i64 0]) (t := 3) hS (of_decide_eq_true (by kernel_rfl)) (by kernel_rfl) rfl (by kernel_rfl) (by kernel_rfl) Tryd.underlying3
end Go.Proofs.YtkhbgfnbkdonlaaDoor.QQuo
