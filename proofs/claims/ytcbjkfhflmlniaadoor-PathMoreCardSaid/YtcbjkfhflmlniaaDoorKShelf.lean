import Derived.Shelf.Small.Utf8
import Derived.Shelf.Small.Strs
import Derived.Shelf.Utf8.RuneCount
import Derived.Shelf.Strings.Search1
import Derived.Shelf.Strings.Search2
import Derived.Shelf.Strings.Search3
import Derived.Shelf.Strings.Count
import Derived.Shelf.LaysM
import Derived.Shelf.Strings.Shaped
import Derived.Shelf.Strings.Prefix
import Derived.Shelf.Strings.Split
import Derived.Shelf.Strings.SplitShaped
import Derived.Shelf.Unicode.Decode
import Derived.Shelf.Strings.Runes
import Derived.Shelf.Strings.RuneCount
import Derived.Shelf.Strings.IndexAny
import Derived.Shelf.Strings.AsciiSet
import Derived.Shelf.Strings.IndexAnyAll
import Derived.Shelf.Strings.Explode
import Derived.Shelf.Unicode.DecodeSlow
import Derived.Shelf.Unicode.DecodeAny
import Derived.Test.YtcbjkfhflmlniaaDoorProg
-- Texts of this seat, what the claim does not reach struck out by a program.
namespace Go.Proofs
open Go.Shelf
def Tryd.lays119_ren : Go.Shelf.Ren := ⟨fun | 119 => 87 | n => n, fun | 21 => 21 | 4 => 4 | n => n, fun | n => n⟩
theorem Tryd.lays119 : Go.Proofs.Lays.n119 Tryd.prog Tryd.lays119_ren := {
 mixed := by kernel_rfl
 f119 := Tryd.func87.trans (congrArg some (by kernel_rfl))
 t4 := Tryd.underlying4
 a4 := Tryd.isAgg4
 z4 := Tryd.sizeOf4
 v4 := Tryd.zeroValue4
 t21 := Tryd.underlying21
 a21 := Tryd.isAgg21
 z21 := Tryd.sizeOf21
 v21 := Tryd.zeroValue21 }
theorem Tryd.utf8_ValidRune (r : Int) (w : World) :
  Calls Tryd.prog 87 #[.int .i32 r] w fun e w' => e = .returned (.bool (Lib.validRune r)) ∧ w' = w := Any.utf8_ValidRune Tryd.lays119 r w
def Tryd.lays137_ren : Go.Shelf.Ren := ⟨fun | 137 => 86 | 217 => 75 | 266 => 80 | n => n, fun | 9 => 9 | 5 => 5 | 3 => 3 | n => n, fun | n => n⟩
theorem Tryd.lays137 : Go.Proofs.Lays.n137 Tryd.prog Tryd.lays137_ren := {
 mixed := by kernel_rfl
 f137 := Tryd.func86.trans (congrArg some (by kernel_rfl))
 f217 := Tryd.func75.trans (congrArg some (by kernel_rfl))
 f266 := Tryd.func80.trans (congrArg some (by kernel_rfl))
 t3 := Tryd.underlying3
 a3 := Tryd.isAgg3
 z3 := Tryd.sizeOf3
 v3 := Tryd.zeroValue3
 t5 := Tryd.underlying5
 a5 := Tryd.isAgg5
 z5 := Tryd.sizeOf5
 v5 := Tryd.zeroValue5
 t9 := Tryd.underlying9
 a9 := Tryd.isAgg9
 z9 := Tryd.sizeOf9
 v9 := Tryd.zeroValue9 }
open Go.RowKit in
theorem Tryd.strings_IndexByte (s : ByteArray) (c : Int) (w : World) :
  Calls Tryd.prog 86 #[.string s, .int .u8 c] w fun e w' => e = .returned (.int .i64 (Lib.indexByte s.data.toList c.toNat.toUInt8)) ∧ w' = w := Any.strings_IndexByte Tryd.lays137 s c w
def Tryd.lays219_ren : Go.Shelf.Ren := ⟨fun | 219 => 69 | 217 => 75 | 225 => 76 | 224 => 77 | 267 => 78 | 266 => 80 | 314 => 81 | n => n, fun | 9 => 9 | 3 => 3 | 4 => 4 | 5 => 5 | 46 => 115 | 146 => 121 | 51 => 120 | n => n, fun | 1 => 0 | n => n⟩
def Tryd.lays143_ren : Go.Shelf.Ren := ⟨fun | 143 => 52 | 219 => 69 | 217 => 75 | 225 => 76 | 224 => 77 | 267 => 78 | 266 => 80 | 314 => 81 | n => n, fun | 9 => 9 | 3 => 3 | 4 => 4 | 5 => 5 | 46 => 115 | 146 => 121 | 51 => 120 | n => n, fun | 1 => 0 | n => n⟩
theorem Tryd.lays143 : Go.Proofs.Lays.n143 Tryd.prog Tryd.lays143_ren := {
 mixed := by kernel_rfl
 f143 := Tryd.func52.trans (congrArg some (by kernel_rfl))
 f217 := Tryd.func75.trans (congrArg some (by kernel_rfl))
 f219 := Tryd.func69.trans (congrArg some (by kernel_rfl))
 f224 := Tryd.func77.trans (congrArg some (by kernel_rfl))
 f225 := Tryd.func76.trans (congrArg some (by kernel_rfl))
 f266 := Tryd.func80.trans (congrArg some (by kernel_rfl))
 f267 := Tryd.func78.trans (congrArg some (by kernel_rfl))
 f314 := Tryd.func81.trans (congrArg some (by kernel_rfl))
 t3 := Tryd.underlying3
 a3 := Tryd.isAgg3
 z3 := Tryd.sizeOf3
 v3 := Tryd.zeroValue3
 t4 := Tryd.underlying4
 a4 := Tryd.isAgg4
 z4 := Tryd.sizeOf4
 v4 := Tryd.zeroValue4
 t5 := Tryd.underlying5
 a5 := Tryd.isAgg5
 z5 := Tryd.sizeOf5
 v5 := Tryd.zeroValue5
 t9 := Tryd.underlying9
 a9 := Tryd.isAgg9
 z9 := Tryd.sizeOf9
 v9 := Tryd.zeroValue9
 t46 := Tryd.underlying115
 a46 := Tryd.isAgg115
 z46 := Tryd.sizeOf115
 v46 := Tryd.zeroValue115
 t51 := Tryd.underlying120
 a51 := Tryd.isAgg120
 z51 := Tryd.sizeOf120
 v51 := Tryd.zeroValue120
 t146 := Tryd.underlying121
 a146 := Tryd.isAgg121
 z146 := Tryd.sizeOf121
 v146 := Tryd.zeroValue121
 g1 := by kernel_rfl }
open Go.RowKit Go.Lib in
theorem Tryd.strings_Index_one (s : ByteArray) (c : UInt8) (w : World) :
  Calls Tryd.prog 52 #[.string s, .string ⟨#[c]⟩] w fun e w' => e = .returned (.int .i64 (Lib.indexByte s.data.toList c)) ∧ w' = w := Any.strings_Index_one Tryd.lays143 s c w
def Tryd.lays144_ren : Go.Shelf.Ren := ⟨fun | 144 => 64 | 143 => 52 | 219 => 69 | 217 => 75 | 225 => 76 | 224 => 77 | 267 => 78 | 266 => 80 | 314 => 81 | n => n, fun | 9 => 9 | 4 => 4 | 3 => 3 | 5 => 5 | 46 => 115 | 146 => 121 | 51 => 120 | n => n, fun | 1 => 0 | n => n⟩
theorem Tryd.lays144 : Go.Proofs.Lays.n144 Tryd.prog Tryd.lays144_ren := {
 mixed := by kernel_rfl
 f143 := Tryd.func52.trans (congrArg some (by kernel_rfl))
 f144 := Tryd.func64.trans (congrArg some (by kernel_rfl))
 f217 := Tryd.func75.trans (congrArg some (by kernel_rfl))
 f219 := Tryd.func69.trans (congrArg some (by kernel_rfl))
 f224 := Tryd.func77.trans (congrArg some (by kernel_rfl))
 f225 := Tryd.func76.trans (congrArg some (by kernel_rfl))
 f266 := Tryd.func80.trans (congrArg some (by kernel_rfl))
 f267 := Tryd.func78.trans (congrArg some (by kernel_rfl))
 f314 := Tryd.func81.trans (congrArg some (by kernel_rfl))
 t3 := Tryd.underlying3
 a3 := Tryd.isAgg3
 z3 := Tryd.sizeOf3
 v3 := Tryd.zeroValue3
 t4 := Tryd.underlying4
 a4 := Tryd.isAgg4
 z4 := Tryd.sizeOf4
 v4 := Tryd.zeroValue4
 t5 := Tryd.underlying5
 a5 := Tryd.isAgg5
 z5 := Tryd.sizeOf5
 v5 := Tryd.zeroValue5
 t9 := Tryd.underlying9
 a9 := Tryd.isAgg9
 z9 := Tryd.sizeOf9
 v9 := Tryd.zeroValue9
 t46 := Tryd.underlying115
 a46 := Tryd.isAgg115
 z46 := Tryd.sizeOf115
 v46 := Tryd.zeroValue115
 t51 := Tryd.underlying120
 a51 := Tryd.isAgg120
 z51 := Tryd.sizeOf120
 v51 := Tryd.zeroValue120
 t146 := Tryd.underlying121
 a146 := Tryd.isAgg121
 z146 := Tryd.sizeOf121
 v146 := Tryd.zeroValue121
 g1 := by kernel_rfl }
open Go.RowKit Go.Lib in
theorem Tryd.strings_Contains_one (s : ByteArray) (c : UInt8) (w : World) :
  Calls Tryd.prog 64 #[.string s, .string ⟨#[c]⟩] w fun e w' => e = .returned (.bool (decide (0 ≤ Lib.indexByte s.data.toList c))) ∧ w' = w := Any.strings_Contains_one Tryd.lays144 s c w
def Tryd.lays138_ren : Go.Shelf.Ren := ⟨fun | 138 => 51 | 195 => 66 | 218 => 68 | 143 => 52 | 219 => 69 | 217 => 75 | 225 => 76 | 224 => 77 | 267 => 78 | 266 => 80 | 314 => 81 | n => n, fun | 9 => 9 | 3 => 3 | 4 => 4 | 5 => 5 | 0 => 0 | 46 => 115 | 146 => 121 | 51 => 120 | n => n, fun | 1 => 0 | n => n⟩
theorem Tryd.lays138 : Go.Proofs.Lays.n138 Tryd.prog Tryd.lays138_ren := {
 mixed := by kernel_rfl
 f138 := Tryd.func51.trans (congrArg some (by kernel_rfl))
 f143 := Tryd.func52.trans (congrArg some (by kernel_rfl))
 f195 := Tryd.func66.trans (congrArg some (by kernel_rfl))
 f217 := Tryd.func75.trans (congrArg some (by kernel_rfl))
 f218 := Tryd.func68.trans (congrArg some (by kernel_rfl))
 f219 := Tryd.func69.trans (congrArg some (by kernel_rfl))
 f224 := Tryd.func77.trans (congrArg some (by kernel_rfl))
 f225 := Tryd.func76.trans (congrArg some (by kernel_rfl))
 f266 := Tryd.func80.trans (congrArg some (by kernel_rfl))
 f267 := Tryd.func78.trans (congrArg some (by kernel_rfl))
 f314 := Tryd.func81.trans (congrArg some (by kernel_rfl))
 t0 := Tryd.underlying0
 a0 := Tryd.isAgg0
 z0 := Tryd.sizeOf0
 v0 := Tryd.zeroValue0
 t3 := Tryd.underlying3
 a3 := Tryd.isAgg3
 z3 := Tryd.sizeOf3
 v3 := Tryd.zeroValue3
 t4 := Tryd.underlying4
 a4 := Tryd.isAgg4
 z4 := Tryd.sizeOf4
 v4 := Tryd.zeroValue4
 t5 := Tryd.underlying5
 a5 := Tryd.isAgg5
 z5 := Tryd.sizeOf5
 v5 := Tryd.zeroValue5
 t9 := Tryd.underlying9
 a9 := Tryd.isAgg9
 z9 := Tryd.sizeOf9
 v9 := Tryd.zeroValue9
 t46 := Tryd.underlying115
 a46 := Tryd.isAgg115
 z46 := Tryd.sizeOf115
 v46 := Tryd.zeroValue115
 t51 := Tryd.underlying120
 a51 := Tryd.isAgg120
 z51 := Tryd.sizeOf120
 v51 := Tryd.zeroValue120
 t146 := Tryd.underlying121
 a146 := Tryd.isAgg121
 z146 := Tryd.sizeOf121
 v146 := Tryd.zeroValue121
 g1 := by kernel_rfl }
open Go.RowKit Go.Lib in
theorem Tryd.strings_Count_one (s : ByteArray) (c : UInt8) (w : World) :
  Calls Tryd.prog 51 #[.string s, .string ⟨#[c]⟩] w fun e w' => e = .returned (.int .i64 (Lib.countByte s.data.toList c)) ∧ w' = w := Any.strings_Count_one Tryd.lays138 s c w
def Tryd.lays206_ren : Go.Shelf.Ren := ⟨fun | 206 => 36 | n => n, fun | 9 => 9 | 4 => 4 | 3 => 3 | n => n, fun | n => n⟩
def Tryd.lays99_ren : Go.Shelf.Ren := ⟨fun | 99 => 22 | 206 => 36 | n => n, fun | 9 => 9 | 4 => 4 | 3 => 3 | n => n, fun | n => n⟩
theorem Tryd.lays99 : Go.Proofs.Lays.n99 Tryd.prog Tryd.lays99_ren := {
 mixed := by kernel_rfl
 f99 := Tryd.func22.trans (congrArg some (by kernel_rfl))
 f206 := Tryd.func36.trans (congrArg some (by kernel_rfl))
 t3 := Tryd.underlying3
 a3 := Tryd.isAgg3
 z3 := Tryd.sizeOf3
 v3 := Tryd.zeroValue3
 t4 := Tryd.underlying4
 a4 := Tryd.isAgg4
 z4 := Tryd.sizeOf4
 v4 := Tryd.zeroValue4
 t9 := Tryd.underlying9
 a9 := Tryd.isAgg9
 z9 := Tryd.sizeOf9
 v9 := Tryd.zeroValue9 }
open Go.RowKit Go.Lib in
theorem Tryd.strings_HasPrefix (s p : ByteArray) (w : World) :
  Calls Tryd.prog 22 #[.string s, .string p] w fun e w' => e = .returned (.bool (Lib.hasPrefix s.data.toList p.data.toList)) ∧ w' = w := Any.strings_HasPrefix Tryd.lays99 s p w
def Tryd.lays100_ren : Go.Shelf.Ren := ⟨fun | 100 => 23 | 207 => 37 | n => n, fun | 9 => 9 | 4 => 4 | 3 => 3 | n => n, fun | n => n⟩
theorem Tryd.lays100 : Go.Proofs.Lays.n100 Tryd.prog Tryd.lays100_ren := {
 mixed := by kernel_rfl
 f100 := Tryd.func23.trans (congrArg some (by kernel_rfl))
 f207 := Tryd.func37.trans (congrArg some (by kernel_rfl))
 t3 := Tryd.underlying3
 a3 := Tryd.isAgg3
 z3 := Tryd.sizeOf3
 v3 := Tryd.zeroValue3
 t4 := Tryd.underlying4
 a4 := Tryd.isAgg4
 z4 := Tryd.sizeOf4
 v4 := Tryd.zeroValue4
 t9 := Tryd.underlying9
 a9 := Tryd.isAgg9
 z9 := Tryd.sizeOf9
 v9 := Tryd.zeroValue9 }
open Go.RowKit Go.Lib in
theorem Tryd.strings_HasSuffix (s p : ByteArray) (w : World) (hs : s.size ≤ 9223372036854775807) :
  Calls Tryd.prog 23 #[.string s, .string p] w fun e w' => e = .returned (.bool (Lib.hasSuffix s.data.toList p.data.toList)) ∧ w' = w := Any.strings_HasSuffix Tryd.lays100 s p w hs
def Tryd.lays221_ren : Go.Shelf.Ren := ⟨fun | 221 => 35 | 268 => 50 | 138 => 51 | 143 => 52 | 195 => 66 | 197 => 67 | 218 => 68 | 219 => 69 | 260 => 74 | 217 => 75 | 225 => 76 | 224 => 77 | 267 => 78 | 266 => 80 | 314 => 81 | n => n, fun | 9 => 9 | 3 => 3 | 31 => 23 | 4 => 4 | 0 => 0 | 105 => 108 | 21 => 21 | 5 => 5 | 46 => 115 | 119 => 116 | 139 => 119 | 138 => 118 | 146 => 121 | 51 => 120 | n => n, fun | 1 => 0 | 3 => 1 | 4 => 2 | n => n⟩
theorem Tryd.lays221 : Go.Proofs.Lays.n221 Tryd.prog Tryd.lays221_ren := {
 mixed := by kernel_rfl
 f138 := Tryd.func51.trans (congrArg some (by kernel_rfl))
 f143 := Tryd.func52.trans (congrArg some (by kernel_rfl))
 f195 := Tryd.func66.trans (congrArg some (by kernel_rfl))
 f197 := Tryd.func67.trans (congrArg some (by kernel_rfl))
 f217 := Tryd.func75.trans (congrArg some (by kernel_rfl))
 f218 := Tryd.func68.trans (congrArg some (by kernel_rfl))
 f219 := Tryd.func69.trans (congrArg some (by kernel_rfl))
 f221 := Tryd.func35.trans (congrArg some (by kernel_rfl))
 f224 := Tryd.func77.trans (congrArg some (by kernel_rfl))
 f225 := Tryd.func76.trans (congrArg some (by kernel_rfl))
 f260 := Tryd.func74.trans (congrArg some (by kernel_rfl))
 f266 := Tryd.func80.trans (congrArg some (by kernel_rfl))
 f267 := Tryd.func78.trans (congrArg some (by kernel_rfl))
 f268 := Tryd.func50.trans (congrArg some (by kernel_rfl))
 f314 := Tryd.func81.trans (congrArg some (by kernel_rfl))
 t0 := Tryd.underlying0
 a0 := Tryd.isAgg0
 z0 := Tryd.sizeOf0
 v0 := Tryd.zeroValue0
 t3 := Tryd.underlying3
 a3 := Tryd.isAgg3
 z3 := Tryd.sizeOf3
 v3 := Tryd.zeroValue3
 t4 := Tryd.underlying4
 a4 := Tryd.isAgg4
 z4 := Tryd.sizeOf4
 v4 := Tryd.zeroValue4
 t5 := Tryd.underlying5
 a5 := Tryd.isAgg5
 z5 := Tryd.sizeOf5
 v5 := Tryd.zeroValue5
 t9 := Tryd.underlying9
 a9 := Tryd.isAgg9
 z9 := Tryd.sizeOf9
 v9 := Tryd.zeroValue9
 t21 := Tryd.underlying21
 a21 := Tryd.isAgg21
 z21 := Tryd.sizeOf21
 v21 := Tryd.zeroValue21
 t31 := Tryd.underlying23
 a31 := Tryd.isAgg23
 z31 := Tryd.sizeOf23
 v31 := Tryd.zeroValue23
 t46 := Tryd.underlying115
 a46 := Tryd.isAgg115
 z46 := Tryd.sizeOf115
 v46 := Tryd.zeroValue115
 t51 := Tryd.underlying120
 a51 := Tryd.isAgg120
 z51 := Tryd.sizeOf120
 v51 := Tryd.zeroValue120
 t105 := Tryd.underlying108
 a105 := Tryd.isAgg108
 z105 := Tryd.sizeOf108
 v105 := Tryd.zeroValue108
 t119 := Tryd.underlying116
 a119 := Tryd.isAgg116
 z119 := Tryd.sizeOf116
 t138 := Tryd.underlying118
 a138 := Tryd.isAgg118
 z138 := Tryd.sizeOf118
 v138 := Tryd.zeroValue118
 t139 := Tryd.underlying119
 a139 := Tryd.isAgg119
 z139 := Tryd.sizeOf119
 v139 := Tryd.zeroValue119
 t146 := Tryd.underlying121
 a146 := Tryd.isAgg121
 z146 := Tryd.sizeOf121
 v146 := Tryd.zeroValue121
 g1 := by kernel_rfl
 g3 := by kernel_rfl
 g4 := by kernel_rfl }
def Tryd.lays152_ren : Go.Shelf.Ren := ⟨fun | 152 => 82 | 137 => 86 | 119 => 87 | 224 => 77 | 225 => 76 | 217 => 75 | 266 => 80 | n => n, fun | 9 => 9 | 21 => 21 | 3 => 3 | 4 => 4 | 5 => 5 | 0 => 0 | 46 => 115 | n => n, fun | n => n⟩
theorem Tryd.lays152 : Go.Proofs.Lays.n152 Tryd.prog Tryd.lays152_ren := {
 mixed := by kernel_rfl
 f119 := Tryd.func87.trans (congrArg some (by kernel_rfl))
 f137 := Tryd.func86.trans (congrArg some (by kernel_rfl))
 f152 := Tryd.func82.trans (congrArg some (by kernel_rfl))
 f217 := Tryd.func75.trans (congrArg some (by kernel_rfl))
 f224 := Tryd.func77.trans (congrArg some (by kernel_rfl))
 f225 := Tryd.func76.trans (congrArg some (by kernel_rfl))
 f266 := Tryd.func80.trans (congrArg some (by kernel_rfl))
 t0 := Tryd.underlying0
 a0 := Tryd.isAgg0
 z0 := Tryd.sizeOf0
 v0 := Tryd.zeroValue0
 t3 := Tryd.underlying3
 a3 := Tryd.isAgg3
 z3 := Tryd.sizeOf3
 v3 := Tryd.zeroValue3
 t4 := Tryd.underlying4
 a4 := Tryd.isAgg4
 z4 := Tryd.sizeOf4
 v4 := Tryd.zeroValue4
 t5 := Tryd.underlying5
 a5 := Tryd.isAgg5
 z5 := Tryd.sizeOf5
 v5 := Tryd.zeroValue5
 t9 := Tryd.underlying9
 a9 := Tryd.isAgg9
 z9 := Tryd.sizeOf9
 v9 := Tryd.zeroValue9
 t21 := Tryd.underlying21
 a21 := Tryd.isAgg21
 z21 := Tryd.sizeOf21
 v21 := Tryd.zeroValue21
 t46 := Tryd.underlying115
 a46 := Tryd.isAgg115
 z46 := Tryd.sizeOf115
 v46 := Tryd.zeroValue115 }
open Go.RowKit Go.Lib in
theorem Tryd.strings_IndexRune_ascii (s : ByteArray) (r : Int) (w : World) (h0 : 0 ≤ r) (h1 : r < 128) :
  Calls Tryd.prog 82 #[.string s, .int .i32 r] w fun e w' => e = .returned (.int .i64 (Lib.indexByte s.data.toList r.toNat.toUInt8)) ∧ w' = w := Any.strings_IndexRune_ascii Tryd.lays152 s r w h0 h1
def Tryd.lays226_ren : Go.Shelf.Ren := ⟨fun | 226 => 83 | n => n, fun | 3 => 3 | 4 => 4 | n => n, fun | n => n⟩
theorem Tryd.lays226 : Go.Proofs.Lays.n226 Tryd.prog Tryd.lays226_ren := {
 mixed := by kernel_rfl
 f226 := Tryd.func83.trans (congrArg some (by kernel_rfl))
 t3 := Tryd.underlying3
 a3 := Tryd.isAgg3
 z3 := Tryd.sizeOf3
 v3 := Tryd.zeroValue3
 t4 := Tryd.underlying4
 a4 := Tryd.isAgg4
 z4 := Tryd.sizeOf4
 v4 := Tryd.zeroValue4 }
open Go.RowKit Go.Lib in
theorem Tryd.strings_shouldUseASCIISet (n : Int) (w : World) :
  Calls Tryd.prog 83 #[.int .i64 n] w fun e w' => e = .returned (.bool (decide (8 < n))) ∧ w' = w := Any.strings_shouldUseASCIISet Tryd.lays226 n w
def Tryd.lays153_ren : Go.Shelf.Ren := ⟨fun | 153 => 79 | 152 => 82 | 226 => 83 | 227 => 84 | 228 => 85 | 137 => 86 | 119 => 87 | 224 => 77 | 225 => 76 | 217 => 75 | 266 => 80 | n => n, fun | 9 => 9 | 3 => 3 | 4 => 4 | 5 => 5 | 21 => 21 | 117 => 126 | 116 => 125 | 0 => 0 | 46 => 115 | 124 => 129 | n => n, fun | n => n⟩
theorem Tryd.lays153 : Go.Proofs.Lays.n153 Tryd.prog Tryd.lays153_ren := {
 mixed := by kernel_rfl
 f119 := Tryd.func87.trans (congrArg some (by kernel_rfl))
 f137 := Tryd.func86.trans (congrArg some (by kernel_rfl))
 f152 := Tryd.func82.trans (congrArg some (by kernel_rfl))
 f153 := Tryd.func79.trans (congrArg some (by kernel_rfl))
 f217 := Tryd.func75.trans (congrArg some (by kernel_rfl))
 f224 := Tryd.func77.trans (congrArg some (by kernel_rfl))
 f225 := Tryd.func76.trans (congrArg some (by kernel_rfl))
 f226 := Tryd.func83.trans (congrArg some (by kernel_rfl))
 f227 := Tryd.func84.trans (congrArg some (by kernel_rfl))
 f228 := Tryd.func85.trans (congrArg some (by kernel_rfl))
 f266 := Tryd.func80.trans (congrArg some (by kernel_rfl))
 t0 := Tryd.underlying0
 a0 := Tryd.isAgg0
 z0 := Tryd.sizeOf0
 v0 := Tryd.zeroValue0
 t3 := Tryd.underlying3
 a3 := Tryd.isAgg3
 z3 := Tryd.sizeOf3
 v3 := Tryd.zeroValue3
 t4 := Tryd.underlying4
 a4 := Tryd.isAgg4
 z4 := Tryd.sizeOf4
 v4 := Tryd.zeroValue4
 t5 := Tryd.underlying5
 a5 := Tryd.isAgg5
 z5 := Tryd.sizeOf5
 v5 := Tryd.zeroValue5
 t9 := Tryd.underlying9
 a9 := Tryd.isAgg9
 z9 := Tryd.sizeOf9
 v9 := Tryd.zeroValue9
 t21 := Tryd.underlying21
 a21 := Tryd.isAgg21
 z21 := Tryd.sizeOf21
 v21 := Tryd.zeroValue21
 t46 := Tryd.underlying115
 a46 := Tryd.isAgg115
 z46 := Tryd.sizeOf115
 v46 := Tryd.zeroValue115
 t116 := Tryd.underlying125
 a116 := Tryd.isAgg125
 z116 := Tryd.sizeOf125
 t117 := Tryd.underlying126
 a117 := Tryd.isAgg126
 z117 := Tryd.sizeOf126
 v117 := Tryd.zeroValue126
 t124 := Tryd.underlying129
 a124 := Tryd.isAgg129
 z124 := Tryd.sizeOf129
 v124 := Tryd.zeroValue129 }
open Go.RowKit Go.Lib in
theorem Tryd.strings_IndexAny_long (hv116 : ∀ w, (zeroValue 125).run Tryd.prog w = .ok (.agg (Array.replicate 256 (.bool false))) w) (s chars : ByteArray) (w : World) (h2 : 2 ≤ chars.size) (h8 : 8 < s.size) (hs : s.size < 4294967281) (hcs : chars.size < 4294967281) (hascii : ∀ (j : Nat) b, chars.data.toList[j]? = some b → b.toNat < 128) :
  Calls Tryd.prog 79 #[.string s, .string chars] w fun e w' => e = .returned (.int .i64 (Lib.indexAny s.data.toList chars.data.toList)) ∧ w' = ((w.alloc (.cells (Lib.setCells chars.data.toList) 125)).alloc (.cells (Lib.setCells chars.data.toList) 125)) := Any.strings_IndexAny_long Tryd.lays153 hv116 (by kernel_rfl) s chars w h2 h8 hs hcs hascii
end Go.Proofs
