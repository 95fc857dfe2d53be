import Derived.Shelf.Small.Utf8
import Derived.Shelf.Small.Strs
import Derived.Shelf.Strings.Search1
import Derived.Shelf.Strings.Search2
import Derived.Shelf.Strings.Search3
import Derived.Shelf.LaysM
import Derived.Shelf.Strings.Shaped
import Derived.Shelf.Strings.Runes
import Derived.Shelf.Strings.IndexAny
import Derived.Shelf.Strings.AsciiSet
import Derived.Shelf.Strings.IndexAnyAll
import Derived.Ground.Names2Prog
import Derived.Shelf.Slices.Clone
import Derived.Ground.SlgnProg
import Derived.Shelf.SlicesE.Clone
import Derived.Test.YtlfldoghomnbkaaProg
-- Texts of this seat, what the claim does not reach struck out by a program.
namespace Go.Proofs
open Go.Shelf
def Try.lays119_ren : Go.Shelf.Ren := ⟨fun | 119 => 66 | n => n, fun | 21 => 21 | 4 => 4 | n => n, fun | n => n⟩
theorem Try.lays119 : Go.Proofs.Lays.n119 Try.prog Try.lays119_ren := {
 mixed := by kernel_rfl
 f119 := Try.func66.trans (congrArg some (by kernel_rfl))
 t4 := Try.underlying4
 a4 := Try.isAgg4
 z4 := Try.sizeOf4
 v4 := Try.zeroValue4
 t21 := Try.underlying21
 a21 := Try.isAgg21
 z21 := Try.sizeOf21
 v21 := Try.zeroValue21 }
theorem Try.utf8_ValidRune (r : Int) (w : World) :
  Calls Try.prog 66 #[.int .i32 r] w fun e w' => e = .returned (.bool (Lib.validRune r)) ∧ w' = w := Any.utf8_ValidRune Try.lays119 r w
def Try.lays137_ren : Go.Shelf.Ren := ⟨fun | 137 => 65 | 217 => 71 | 266 => 73 | n => n, fun | 9 => 9 | 5 => 5 | 3 => 3 | n => n, fun | n => n⟩
theorem Try.lays137 : Go.Proofs.Lays.n137 Try.prog Try.lays137_ren := {
 mixed := by kernel_rfl
 f137 := Try.func65.trans (congrArg some (by kernel_rfl))
 f217 := Try.func71.trans (congrArg some (by kernel_rfl))
 f266 := Try.func73.trans (congrArg some (by kernel_rfl))
 t3 := Try.underlying3
 a3 := Try.isAgg3
 z3 := Try.sizeOf3
 v3 := Try.zeroValue3
 t5 := Try.underlying5
 a5 := Try.isAgg5
 z5 := Try.sizeOf5
 v5 := Try.zeroValue5
 t9 := Try.underlying9
 a9 := Try.isAgg9
 z9 := Try.sizeOf9
 v9 := Try.zeroValue9 }
open Go.RowKit in
theorem Try.strings_IndexByte (s : ByteArray) (c : Int) (w : World) :
  Calls Try.prog 65 #[.string s, .int .u8 c] w fun e w' => e = .returned (.int .i64 (Lib.indexByte s.data.toList c.toNat.toUInt8)) ∧ w' = w := Any.strings_IndexByte Try.lays137 s c w
def Try.lays219_ren : Go.Shelf.Ren := ⟨fun | 219 => 72 | 217 => 71 | 225 => 68 | 224 => 67 | 267 => 74 | 266 => 73 | 314 => 75 | n => n, fun | 9 => 9 | 3 => 3 | 4 => 4 | 5 => 5 | 46 => 105 | 146 => 108 | 51 => 27 | n => n, fun | 1 => 0 | n => n⟩
def Try.lays144_ren : Go.Shelf.Ren := ⟨fun | 144 => 63 | 143 => 70 | 219 => 72 | 217 => 71 | 225 => 68 | 224 => 67 | 267 => 74 | 266 => 73 | 314 => 75 | n => n, fun | 9 => 9 | 4 => 4 | 3 => 3 | 5 => 5 | 46 => 105 | 146 => 108 | 51 => 27 | n => n, fun | 1 => 0 | n => n⟩
theorem Try.lays144 : Go.Proofs.Lays.n144 Try.prog Try.lays144_ren := {
 mixed := by kernel_rfl
 f143 := Try.func70.trans (congrArg some (by kernel_rfl))
 f144 := Try.func63.trans (congrArg some (by kernel_rfl))
 f217 := Try.func71.trans (congrArg some (by kernel_rfl))
 f219 := Try.func72.trans (congrArg some (by kernel_rfl))
 f224 := Try.func67.trans (congrArg some (by kernel_rfl))
 f225 := Try.func68.trans (congrArg some (by kernel_rfl))
 f266 := Try.func73.trans (congrArg some (by kernel_rfl))
 f267 := Try.func74.trans (congrArg some (by kernel_rfl))
 f314 := Try.func75.trans (congrArg some (by kernel_rfl))
 t3 := Try.underlying3
 a3 := Try.isAgg3
 z3 := Try.sizeOf3
 v3 := Try.zeroValue3
 t4 := Try.underlying4
 a4 := Try.isAgg4
 z4 := Try.sizeOf4
 v4 := Try.zeroValue4
 t5 := Try.underlying5
 a5 := Try.isAgg5
 z5 := Try.sizeOf5
 v5 := Try.zeroValue5
 t9 := Try.underlying9
 a9 := Try.isAgg9
 z9 := Try.sizeOf9
 v9 := Try.zeroValue9
 t46 := Try.underlying105
 a46 := Try.isAgg105
 z46 := Try.sizeOf105
 v46 := Try.zeroValue105
 t51 := Try.underlying27
 a51 := Try.isAgg27
 z51 := Try.sizeOf27
 v51 := Try.zeroValue27
 t146 := Try.underlying108
 a146 := Try.isAgg108
 z146 := Try.sizeOf108
 v146 := Try.zeroValue108
 g1 := by kernel_rfl }
open Go.RowKit Go.Lib in
theorem Try.strings_Contains_one (s : ByteArray) (c : UInt8) (w : World) :
  Calls Try.prog 63 #[.string s, .string ⟨#[c]⟩] w fun e w' => e = .returned (.bool (decide (0 ≤ Lib.indexByte s.data.toList c))) ∧ w' = w := Any.strings_Contains_one Try.lays144 s c w
def Try.lays152_ren : Go.Shelf.Ren := ⟨fun | 152 => 57 | 137 => 65 | 119 => 66 | 224 => 67 | 225 => 68 | 217 => 71 | 266 => 73 | n => n, fun | 9 => 9 | 21 => 21 | 3 => 3 | 4 => 4 | 5 => 5 | 0 => 0 | 46 => 105 | n => n, fun | n => n⟩
theorem Try.lays152 : Go.Proofs.Lays.n152 Try.prog Try.lays152_ren := {
 mixed := by kernel_rfl
 f119 := Try.func66.trans (congrArg some (by kernel_rfl))
 f137 := Try.func65.trans (congrArg some (by kernel_rfl))
 f152 := Try.func57.trans (congrArg some (by kernel_rfl))
 f217 := Try.func71.trans (congrArg some (by kernel_rfl))
 f224 := Try.func67.trans (congrArg some (by kernel_rfl))
 f225 := Try.func68.trans (congrArg some (by kernel_rfl))
 f266 := Try.func73.trans (congrArg some (by kernel_rfl))
 t0 := Try.underlying0
 a0 := Try.isAgg0
 z0 := Try.sizeOf0
 v0 := Try.zeroValue0
 t3 := Try.underlying3
 a3 := Try.isAgg3
 z3 := Try.sizeOf3
 v3 := Try.zeroValue3
 t4 := Try.underlying4
 a4 := Try.isAgg4
 z4 := Try.sizeOf4
 v4 := Try.zeroValue4
 t5 := Try.underlying5
 a5 := Try.isAgg5
 z5 := Try.sizeOf5
 v5 := Try.zeroValue5
 t9 := Try.underlying9
 a9 := Try.isAgg9
 z9 := Try.sizeOf9
 v9 := Try.zeroValue9
 t21 := Try.underlying21
 a21 := Try.isAgg21
 z21 := Try.sizeOf21
 v21 := Try.zeroValue21
 t46 := Try.underlying105
 a46 := Try.isAgg105
 z46 := Try.sizeOf105
 v46 := Try.zeroValue105 }
open Go.RowKit Go.Lib in
theorem Try.strings_IndexRune_ascii (s : ByteArray) (r : Int) (w : World) (h0 : 0 ≤ r) (h1 : r < 128) :
  Calls Try.prog 57 #[.string s, .int .i32 r] w fun e w' => e = .returned (.int .i64 (Lib.indexByte s.data.toList r.toNat.toUInt8)) ∧ w' = w := Any.strings_IndexRune_ascii Try.lays152 s r w h0 h1
def Try.lays226_ren : Go.Shelf.Ren := ⟨fun | 226 => 58 | n => n, fun | 3 => 3 | 4 => 4 | n => n, fun | n => n⟩
theorem Try.lays226 : Go.Proofs.Lays.n226 Try.prog Try.lays226_ren := {
 mixed := by kernel_rfl
 f226 := Try.func58.trans (congrArg some (by kernel_rfl))
 t3 := Try.underlying3
 a3 := Try.isAgg3
 z3 := Try.sizeOf3
 v3 := Try.zeroValue3
 t4 := Try.underlying4
 a4 := Try.isAgg4
 z4 := Try.sizeOf4
 v4 := Try.zeroValue4 }
open Go.RowKit Go.Lib in
theorem Try.strings_shouldUseASCIISet (n : Int) (w : World) :
  Calls Try.prog 58 #[.int .i64 n] w fun e w' => e = .returned (.bool (decide (8 < n))) ∧ w' = w := Any.strings_shouldUseASCIISet Try.lays226 n w
def Try.lays153_ren : Go.Shelf.Ren := ⟨fun | 153 => 49 | 152 => 57 | 226 => 58 | 227 => 59 | 228 => 60 | 137 => 65 | 119 => 66 | 224 => 67 | 225 => 68 | 217 => 71 | 266 => 73 | n => n, fun | 9 => 9 | 3 => 3 | 4 => 4 | 5 => 5 | 21 => 21 | 117 => 97 | 116 => 96 | 0 => 0 | 46 => 105 | 124 => 106 | n => n, fun | n => n⟩
theorem Try.lays153 : Go.Proofs.Lays.n153 Try.prog Try.lays153_ren := {
 mixed := by kernel_rfl
 f119 := Try.func66.trans (congrArg some (by kernel_rfl))
 f137 := Try.func65.trans (congrArg some (by kernel_rfl))
 f152 := Try.func57.trans (congrArg some (by kernel_rfl))
 f153 := Try.func49.trans (congrArg some (by kernel_rfl))
 f217 := Try.func71.trans (congrArg some (by kernel_rfl))
 f224 := Try.func67.trans (congrArg some (by kernel_rfl))
 f225 := Try.func68.trans (congrArg some (by kernel_rfl))
 f226 := Try.func58.trans (congrArg some (by kernel_rfl))
 f227 := Try.func59.trans (congrArg some (by kernel_rfl))
 f228 := Try.func60.trans (congrArg some (by kernel_rfl))
 f266 := Try.func73.trans (congrArg some (by kernel_rfl))
 t0 := Try.underlying0
 a0 := Try.isAgg0
 z0 := Try.sizeOf0
 v0 := Try.zeroValue0
 t3 := Try.underlying3
 a3 := Try.isAgg3
 z3 := Try.sizeOf3
 v3 := Try.zeroValue3
 t4 := Try.underlying4
 a4 := Try.isAgg4
 z4 := Try.sizeOf4
 v4 := Try.zeroValue4
 t5 := Try.underlying5
 a5 := Try.isAgg5
 z5 := Try.sizeOf5
 v5 := Try.zeroValue5
 t9 := Try.underlying9
 a9 := Try.isAgg9
 z9 := Try.sizeOf9
 v9 := Try.zeroValue9
 t21 := Try.underlying21
 a21 := Try.isAgg21
 z21 := Try.sizeOf21
 v21 := Try.zeroValue21
 t46 := Try.underlying105
 a46 := Try.isAgg105
 z46 := Try.sizeOf105
 v46 := Try.zeroValue105
 t116 := Try.underlying96
 a116 := Try.isAgg96
 z116 := Try.sizeOf96
 t117 := Try.underlying97
 a117 := Try.isAgg97
 z117 := Try.sizeOf97
 v117 := Try.zeroValue97
 t124 := Try.underlying106
 a124 := Try.isAgg106
 z124 := Try.sizeOf106
 v124 := Try.zeroValue106 }
open Go.RowKit Go.Lib in
theorem Try.strings_IndexAny_long (hv116 : ∀ w, (zeroValue 96).run Try.prog w = .ok (.agg (Array.replicate 256 (.bool false))) w) (s chars : ByteArray) (w : World) (h2 : 2 ≤ chars.size) (h8 : 8 < s.size) (hs : s.size < 4294967281) (hcs : chars.size < 4294967281) (hascii : ∀ (j : Nat) b, chars.data.toList[j]? = some b → b.toNat < 128) :
  Calls Try.prog 49 #[.string s, .string chars] w fun e w' => e = .returned (.int .i64 (Lib.indexAny s.data.toList chars.data.toList)) ∧ w' = ((w.alloc (.cells (Lib.setCells chars.data.toList) 96)).alloc (.cells (Lib.setCells chars.data.toList) 96)) := Any.strings_IndexAny_long Try.lays153 hv116 (by kernel_rfl) s chars w h2 h8 hs hcs hascii
end Go.Proofs
