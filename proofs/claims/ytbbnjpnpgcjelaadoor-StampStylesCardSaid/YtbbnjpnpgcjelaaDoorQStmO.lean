-- Made by a program of this session.
import Derived.Test.YtbbnjpnpgcjelaaDoorQStmR
import Derived.Test.YtbbnjpnpgcjelaaDoorQStmR1
namespace Go.Proofs.YtbbnjpnpgcjelaaDoor.QStm
open Go.RowKit Go.Proofs.YtbbnjpnpgcjelaaDoorW.PrintWords Go.Proofs.YtbbnjpnpgcjelaaDoorW.PrintLast Go.Proofs.YtbbnjpnpgcjelaaDoorW.PrintMore
attribute [local go_sem] max2_int min2_int max_two min_two max_three min_three max_four min_four   -- for this text's walks alone
set_option linter.unusedVariables false
set_option linter.unusedSimpArgs false

/-! ### domesdayref05_One: function 25 -/
def domesdayref05_One.j0 : Nat → Int → ByteArray → Option (ByteArray × Bool)
 | 0, _, _ => none
 | k + 1, x10, x11 => (domesdayref05_two.f (wrap64 (Int.tdiv x10 3600))).bind fun t145 => (if x11.size + t145.size ≤ 9223372036854775807 then ((domesdayref05_two.f (Int.tmod (wrap64 (Int.tdiv x10 60)) 60)).bind fun t146 => (if x11.size + t145.size + t146.size ≤ 9223372036854775807 then (some ((x11 ++ t145) ++ t146, true)) else (none))) else (none))
def domesdayref05_One.f (k : Nat) (a0 : Int) (a1 : Int) (a2 : Int) : Option (ByteArray × Bool) := (domesdayref04_Of.f k a1 a2).bind fun bt118 => (if a0 = 89 then ((domesdayref01_Dec.f k bt118.1).bind fun t127 => (some (t127, true))) else (if a0 = 109 then ((domesdayref05_two.f bt118.2.1).bind fun t128 => (some (t128, true))) else (if a0 = 100 then ((domesdayref05_two.f bt118.2.2.1).bind fun t129 => (some (t129, true))) else (if a0 = 72 then ((domesdayref05_two.f bt118.2.2.2.1).bind fun t130 => (some (t130, true))) else (if a0 = 77 then ((domesdayref05_two.f bt118.2.2.2.2.1).bind fun t131 => (some (t131, true))) else (if a0 = 83 then ((domesdayref05_two.f bt118.2.2.2.2.2.1).bind fun t132 => (some (t132, true))) else (if a0 = 106 then ((some (([(wrap64 (48 + (wrap64 (Int.tdiv bt118.2.2.2.2.2.2.2 100)))) % 256] : List Int) : List Int)).bind fun y133 => ((domesdayref05_two.f (Int.tmod bt118.2.2.2.2.2.2.2 100)).bind fun t136 => (if (strOfNums y133).size + t136.size ≤ 9223372036854775807 then (some ((strOfNums y133) ++ t136, true)) else (none)))) else (if a0 = 115 then ((domesdayref01_Dec.f k a1).bind fun t137 => (some (t137, true))) else (if a0 = 37 then (some ((⟨#[37]⟩ : ByteArray), true)) else (if a0 = 98 then (if 0 ≤ bt118.2.1 then (if bt118.2.1 < 13 then (some (rdOf ByteArray.empty [(⟨#[]⟩ : ByteArray), (⟨#[74, 97, 110]⟩ : ByteArray), (⟨#[70, 101, 98]⟩ : ByteArray), (⟨#[77, 97, 114]⟩ : ByteArray), (⟨#[65, 112, 114]⟩ : ByteArray), (⟨#[77, 97, 121]⟩ : ByteArray), (⟨#[74, 117, 110]⟩ : ByteArray), (⟨#[74, 117, 108]⟩ : ByteArray), (⟨#[65, 117, 103]⟩ : ByteArray), (⟨#[83, 101, 112]⟩ : ByteArray), (⟨#[79, 99, 116]⟩ : ByteArray), (⟨#[78, 111, 118]⟩ : ByteArray), (⟨#[68, 101, 99]⟩ : ByteArray)] bt118.2.1, true)) else (none)) else (none)) else (if a0 = 97 then (if 0 ≤ bt118.2.2.2.2.2.2.1 then (if bt118.2.2.2.2.2.2.1 < 7 then (some (rdOf ByteArray.empty [(⟨#[83, 117, 110]⟩ : ByteArray), (⟨#[77, 111, 110]⟩ : ByteArray), (⟨#[84, 117, 101]⟩ : ByteArray), (⟨#[87, 101, 100]⟩ : ByteArray), (⟨#[84, 104, 117]⟩ : ByteArray), (⟨#[70, 114, 105]⟩ : ByteArray), (⟨#[83, 97, 116]⟩ : ByteArray)] bt118.2.2.2.2.2.2.1, true)) else (none)) else (none)) else (if a0 = 70 then ((domesdayref01_Dec.f k bt118.1).bind fun t138 => (if t138.size + 1 ≤ 9223372036854775807 then ((domesdayref05_two.f bt118.2.1).bind fun t139 => (if t138.size + 1 + t139.size ≤ 9223372036854775807 then (if t138.size + 1 + t139.size + 1 ≤ 9223372036854775807 then ((domesdayref05_two.f bt118.2.2.1).bind fun t140 => (if t138.size + 1 + t139.size + 1 + t140.size ≤ 9223372036854775807 then (some ((((t138 ++ (⟨#[45]⟩ : ByteArray)) ++ t139) ++ (⟨#[45]⟩ : ByteArray)) ++ t140, true)) else (none))) else (none)) else (none))) else (none))) else (if a0 = 84 then ((domesdayref05_two.f bt118.2.2.2.1).bind fun t141 => (if t141.size + 1 ≤ 9223372036854775807 then ((domesdayref05_two.f bt118.2.2.2.2.1).bind fun t142 => (if t141.size + 1 + t142.size ≤ 9223372036854775807 then (if t141.size + 1 + t142.size + 1 ≤ 9223372036854775807 then ((domesdayref05_two.f bt118.2.2.2.2.2.1).bind fun t143 => (if t141.size + 1 + t142.size + 1 + t143.size ≤ 9223372036854775807 then (some ((((t141 ++ (⟨#[58]⟩ : ByteArray)) ++ t142) ++ (⟨#[58]⟩ : ByteArray)) ++ t143, true)) else (none))) else (none)) else (none))) else (none))) else (if a0 = 101 then ((domesdayref05_two.f bt118.2.2.1).bind fun t144 => (if bt118.2.2.1 < 10 then (if 1 ≤ (t144.size : Int) then (if 1 + (t144.extract 1 t144.size).size ≤ 9223372036854775807 then (some ((⟨#[32]⟩ : ByteArray) ++ (t144.extract 1 t144.size), true)) else (none)) else (none)) else (some (t144, true)))) else (if a0 = 122 then (if (mx (mn a2 86400) (-86400)) < 0 then (domesdayref05_One.j0 k (-(mx (mn a2 86400) (-86400))) (⟨#[45]⟩ : ByteArray)) else (domesdayref05_One.j0 k (mx (mn a2 86400) (-86400)) (⟨#[43]⟩ : ByteArray))) else (some ((⟨#[]⟩ : ByteArray), false)))))))))))))))))
theorem domesdayref05_One.mono_l : ∀ k, (∀ y0 y1, LeO (domesdayref05_One.j0 k y0 y1) (domesdayref05_One.j0 (k + 1) y0 y1))
 | 0 => fun _ _ r h => by simp [domesdayref05_One.j0] at h
 | k + 1 => by
  have ih0 := domesdayref05_One.mono_l k
  ·intro y0 y1
   unfold domesdayref05_One.j0
   repeat' first
   | (with_reducible exact ih0 _ _)
   | (with_reducible exact domesdayref01_Dec.mono _ _)
   | (with_reducible exact domesdayref04_Of.mono _ _ _)
   | (with_reducible exact LeO.refl _)
   | (with_reducible exact LeO.none _)
   | (with_reducible refine LeO.ite ?_ ?_)
   | (with_reducible refine LeO.bind ?_ (fun _ => ?_))
   | exact ih0 _ _
   | exact domesdayref01_Dec.mono _ _
   | exact domesdayref04_Of.mono _ _ _
   | exact LeO.none _
   | refine LeO.ite ?_ ?_
   | refine LeO.bind ?_ (fun _ => ?_)
theorem domesdayref05_One.mono : ∀ a0 a1 a2 k, LeO (domesdayref05_One.f k a0 a1 a2) (domesdayref05_One.f (k + 1) a0 a1 a2) := by
 intro a0 a1 a2 k
 have ih0 := domesdayref05_One.mono_l k
 unfold domesdayref05_One.f
 repeat' first
   | (with_reducible exact ih0 _ _)
   | (with_reducible exact domesdayref01_Dec.mono _ _)
   | (with_reducible exact domesdayref04_Of.mono _ _ _)
   | (with_reducible exact LeO.refl _)
   | (with_reducible exact LeO.none _)
   | (with_reducible refine LeO.ite ?_ ?_)
   | (with_reducible refine LeO.bind ?_ (fun _ => ?_))
   | exact ih0 _ _
   | exact domesdayref01_Dec.mono _ _
   | exact domesdayref04_Of.mono _ _ _
   | exact LeO.none _
   | refine LeO.ite ?_ ?_
   | refine LeO.bind ?_ (fun _ => ?_)
def domesdayref05_One.T16 : Bool × List (List Nat × List Nat) := (true, [([], []), ([0], [0]), ([1], [1]), ([2], [2]), ([3], [3]), ([4], [4]), ([5], [5]), ([], []), ([7], [7]), ([8], [8]), ([9], [9]), ([6, 10], [6, 10]), ([11, 10, 0, 1, 2, 3, 4, 5, 6, 7, 8, 9, 10, 11], [11]), ([12, 0, 1, 2, 3, 4, 5, 6, 7, 8, 9, 10, 11, 12], [])])
def domesdayref05_One.B16 : List Nat := [0, 1, 3, 7, 15, 31, 63, 0, 128, 384, 896, 2047, 4095, 8191]
theorem domesdayref05_One.tab16 : rtab .any (opsOf Tryd.f25 16) = domesdayref05_One.T16 := by kernel_rfl
theorem domesdayref05_One.bits16 : waitsOk domesdayref05_One.T16.2 domesdayref05_One.B16 = true := by kernel_rfl
def domesdayref05_One.T26 : Bool × List (List Nat × List Nat) := (true, [([], []), ([0], [0]), ([1], [1]), ([2], [2]), ([], []), ([4], [4]), ([5, 2], [5]), ([3, 6], [3, 6]), ([7], [7]), ([], []), ([9], [9]), ([10, 6], [10]), ([8, 11], [8, 11]), ([12, 11, 0, 1, 2, 3, 4, 5, 6, 7, 8, 9, 10, 11, 12], [12]), ([13, 0, 1, 2, 3, 4, 5, 6, 7, 8, 9, 10, 11, 12, 13], [])])
def domesdayref05_One.B26 : List Nat := [0, 1, 3, 7, 0, 16, 55, 127, 255, 0, 512, 1655, 4095, 8191, 16383]
theorem domesdayref05_One.tab26 : rtab .any (opsOf Tryd.f25 26) = domesdayref05_One.T26 := by kernel_rfl
theorem domesdayref05_One.bits26 : waitsOk domesdayref05_One.T26.2 domesdayref05_One.B26 = true := by kernel_rfl
def domesdayref05_One.T28 : Bool × List (List Nat × List Nat) := (true, [([], []), ([0], [0]), ([1], [1]), ([2], [2]), ([], []), ([4], [4]), ([5, 2], [5]), ([3, 6], [3, 6]), ([7], [7]), ([], []), ([9], [9]), ([10, 6], [10]), ([8, 11], [8, 11]), ([12, 11, 0, 1, 2, 3, 4, 5, 6, 7, 8, 9, 10, 11, 12], [12]), ([13, 0, 1, 2, 3, 4, 5, 6, 7, 8, 9, 10, 11, 12, 13], [])])
def domesdayref05_One.B28 : List Nat := [0, 1, 3, 7, 0, 16, 55, 127, 255, 0, 512, 1655, 4095, 8191, 16383]
theorem domesdayref05_One.tab28 : rtab .any (opsOf Tryd.f25 28) = domesdayref05_One.T28 := by kernel_rfl
theorem domesdayref05_One.bits28 : waitsOk domesdayref05_One.T28.2 domesdayref05_One.B28 = true := by kernel_rfl
set_option maxHeartbeats 8000000 in
set_option maxRecDepth 100000 in
theorem domesdayref05_One.calls (k : Nat) (a0 : Int) (a1 : Int) (a2 : Int) (r1 : ByteArray) (r2 : Bool) (w : World) (h : domesdayref05_One.f k a0 a1 a2 = some (r1, r2)) :
  Calls Tryd.prog 25 #[.int .u8 a0, .int .i64 a1, .int .i64 a2] w fun e w' => e = .returned (.tuple #[.string r1, .bool r2]) ∧ Below w.heap.size w w' := by
 have hu23 := Tryd.underlying23
 have hu60 := Tryd.underlying60
 have hu61 := Tryd.underlying61
 have HB := Aside0.mk (Below.refl w.heap.size w)
 have H : ((domesdayref04_Of.f k a1 a2).bind fun bt118 => (if a0 = 89 then ((domesdayref01_Dec.f k bt118.1).bind fun t127 => (some (t127, true))) else (if a0 = 109 then ((domesdayref05_two.f bt118.2.1).bind fun t128 => (some (t128, true))) else (if a0 = 100 then ((domesdayref05_two.f bt118.2.2.1).bind fun t129 => (some (t129, true))) else (if a0 = 72 then ((domesdayref05_two.f bt118.2.2.2.1).bind fun t130 => (some (t130, true))) else (if a0 = 77 then ((domesdayref05_two.f bt118.2.2.2.2.1).bind fun t131 => (some (t131, true))) else (if a0 = 83 then ((domesdayref05_two.f bt118.2.2.2.2.2.1).bind fun t132 => (some (t132, true))) else (if a0 = 106 then ((some (([(wrap64 (48 + (wrap64 (Int.tdiv bt118.2.2.2.2.2.2.2 100)))) % 256] : List Int) : List Int)).bind fun y133 => ((domesdayref05_two.f (Int.tmod bt118.2.2.2.2.2.2.2 100)).bind fun t136 => (if (strOfNums y133).size + t136.size ≤ 9223372036854775807 then (some ((strOfNums y133) ++ t136, true)) else (none)))) else (if a0 = 115 then ((domesdayref01_Dec.f k a1).bind fun t137 => (some (t137, true))) else (if a0 = 37 then (some ((⟨#[37]⟩ : ByteArray), true)) else (if a0 = 98 then (if 0 ≤ bt118.2.1 then (if bt118.2.1 < 13 then (some (rdOf ByteArray.empty [(⟨#[]⟩ : ByteArray), (⟨#[74, 97, 110]⟩ : ByteArray), (⟨#[70, 101, 98]⟩ : ByteArray), (⟨#[77, 97, 114]⟩ : ByteArray), (⟨#[65, 112, 114]⟩ : ByteArray), (⟨#[77, 97, 121]⟩ : ByteArray), (⟨#[74, 117, 110]⟩ : ByteArray), (⟨#[74, 117, 108]⟩ : ByteArray), (⟨#[65, 117, 103]⟩ : ByteArray), (⟨#[83, 101, 112]⟩ : ByteArray), (⟨#[79, 99, 116]⟩ : ByteArray), (⟨#[78, 111, 118]⟩ : ByteArray), (⟨#[68, 101, 99]⟩ : ByteArray)] bt118.2.1, true)) else (none)) else (none)) else (if a0 = 97 then (if 0 ≤ bt118.2.2.2.2.2.2.1 then (if bt118.2.2.2.2.2.2.1 < 7 then (some (rdOf ByteArray.empty [(⟨#[83, 117, 110]⟩ : ByteArray), (⟨#[77, 111, 110]⟩ : ByteArray), (⟨#[84, 117, 101]⟩ : ByteArray), (⟨#[87, 101, 100]⟩ : ByteArray), (⟨#[84, 104, 117]⟩ : ByteArray), (⟨#[70, 114, 105]⟩ : ByteArray), (⟨#[83, 97, 116]⟩ : ByteArray)] bt118.2.2.2.2.2.2.1, true)) else (none)) else (none)) else (if a0 = 70 then ((domesdayref01_Dec.f k bt118.1).bind fun t138 => (if t138.size + 1 ≤ 9223372036854775807 then ((domesdayref05_two.f bt118.2.1).bind fun t139 => (if t138.size + 1 + t139.size ≤ 9223372036854775807 then (if t138.size + 1 + t139.size + 1 ≤ 9223372036854775807 then ((domesdayref05_two.f bt118.2.2.1).bind fun t140 => (if t138.size + 1 + t139.size + 1 + t140.size ≤ 9223372036854775807 then (some ((((t138 ++ (⟨#[45]⟩ : ByteArray)) ++ t139) ++ (⟨#[45]⟩ : ByteArray)) ++ t140, true)) else (none))) else (none)) else (none))) else (none))) else (if a0 = 84 then ((domesdayref05_two.f bt118.2.2.2.1).bind fun t141 => (if t141.size + 1 ≤ 9223372036854775807 then ((domesdayref05_two.f bt118.2.2.2.2.1).bind fun t142 => (if t141.size + 1 + t142.size ≤ 9223372036854775807 then (if t141.size + 1 + t142.size + 1 ≤ 9223372036854775807 then ((domesdayref05_two.f bt118.2.2.2.2.2.1).bind fun t143 => (if t141.size + 1 + t142.size + 1 + t143.size ≤ 9223372036854775807 then (some ((((t141 ++ (⟨#[58]⟩ : ByteArray)) ++ t142) ++ (⟨#[58]⟩ : ByteArray)) ++ t143, true)) else (none))) else (none)) else (none))) else (none))) else (if a0 = 101 then ((domesdayref05_two.f bt118.2.2.1).bind fun t144 => (if bt118.2.2.1 < 10 then (if 1 ≤ (t144.size : Int) then (if 1 + (t144.extract 1 t144.size).size ≤ 9223372036854775807 then (some ((⟨#[32]⟩ : ByteArray) ++ (t144.extract 1 t144.size), true)) else (none)) else (none)) else (some (t144, true)))) else (if a0 = 122 then (if (mx (mn a2 86400) (-86400)) < 0 then (domesdayref05_One.j0 k (-(mx (mn a2 86400) (-86400))) (⟨#[45]⟩ : ByteArray)) else (domesdayref05_One.j0 k (mx (mn a2 86400) (-86400)) (⟨#[43]⟩ : ByteArray))) else (some ((⟨#[]⟩ : ByteArray), false)))))))))))))))))) = some (r1, r2) := h
 clear h
 replace H := Option.bind_eq_some_iff.mp H
 obtain ⟨⟨t118, t119, t120, t121, t122, t123, t124, t125⟩, A40, H⟩ := H
 replace H : (if a0 = 89 then ((domesdayref01_Dec.f k t118).bind fun t127 => (some (t127, true))) else (if a0 = 109 then ((domesdayref05_two.f t119).bind fun t128 => (some (t128, true))) else (if a0 = 100 then ((domesdayref05_two.f t120).bind fun t129 => (some (t129, true))) else (if a0 = 72 then ((domesdayref05_two.f t121).bind fun t130 => (some (t130, true))) else (if a0 = 77 then ((domesdayref05_two.f t122).bind fun t131 => (some (t131, true))) else (if a0 = 83 then ((domesdayref05_two.f t123).bind fun t132 => (some (t132, true))) else (if a0 = 106 then ((some (([(wrap64 (48 + (wrap64 (Int.tdiv t125 100)))) % 256] : List Int) : List Int)).bind fun y133 => ((domesdayref05_two.f (Int.tmod t125 100)).bind fun t136 => (if (strOfNums y133).size + t136.size ≤ 9223372036854775807 then (some ((strOfNums y133) ++ t136, true)) else (none)))) else (if a0 = 115 then ((domesdayref01_Dec.f k a1).bind fun t137 => (some (t137, true))) else (if a0 = 37 then (some ((⟨#[37]⟩ : ByteArray), true)) else (if a0 = 98 then (if 0 ≤ t119 then (if t119 < 13 then (some (rdOf ByteArray.empty [(⟨#[]⟩ : ByteArray), (⟨#[74, 97, 110]⟩ : ByteArray), (⟨#[70, 101, 98]⟩ : ByteArray), (⟨#[77, 97, 114]⟩ : ByteArray), (⟨#[65, 112, 114]⟩ : ByteArray), (⟨#[77, 97, 121]⟩ : ByteArray), (⟨#[74, 117, 110]⟩ : ByteArray), (⟨#[74, 117, 108]⟩ : ByteArray), (⟨#[65, 117, 103]⟩ : ByteArray), (⟨#[83, 101, 112]⟩ : ByteArray), (⟨#[79, 99, 116]⟩ : ByteArray), (⟨#[78, 111, 118]⟩ : ByteArray), (⟨#[68, 101, 99]⟩ : ByteArray)] t119, true)) else (none)) else (none)) else (if a0 = 97 then (if 0 ≤ t124 then (if t124 < 7 then (some (rdOf ByteArray.empty [(⟨#[83, 117, 110]⟩ : ByteArray), (⟨#[77, 111, 110]⟩ : ByteArray), (⟨#[84, 117, 101]⟩ : ByteArray), (⟨#[87, 101, 100]⟩ : ByteArray), (⟨#[84, 104, 117]⟩ : ByteArray), (⟨#[70, 114, 105]⟩ : ByteArray), (⟨#[83, 97, 116]⟩ : ByteArray)] t124, true)) else (none)) else (none)) else (if a0 = 70 then ((domesdayref01_Dec.f k t118).bind fun t138 => (if t138.size + 1 ≤ 9223372036854775807 then ((domesdayref05_two.f t119).bind fun t139 => (if t138.size + 1 + t139.size ≤ 9223372036854775807 then (if t138.size + 1 + t139.size + 1 ≤ 9223372036854775807 then ((domesdayref05_two.f t120).bind fun t140 => (if t138.size + 1 + t139.size + 1 + t140.size ≤ 9223372036854775807 then (some ((((t138 ++ (⟨#[45]⟩ : ByteArray)) ++ t139) ++ (⟨#[45]⟩ : ByteArray)) ++ t140, true)) else (none))) else (none)) else (none))) else (none))) else (if a0 = 84 then ((domesdayref05_two.f t121).bind fun t141 => (if t141.size + 1 ≤ 9223372036854775807 then ((domesdayref05_two.f t122).bind fun t142 => (if t141.size + 1 + t142.size ≤ 9223372036854775807 then (if t141.size + 1 + t142.size + 1 ≤ 9223372036854775807 then ((domesdayref05_two.f t123).bind fun t143 => (if t141.size + 1 + t142.size + 1 + t143.size ≤ 9223372036854775807 then (some ((((t141 ++ (⟨#[58]⟩ : ByteArray)) ++ t142) ++ (⟨#[58]⟩ : ByteArray)) ++ t143, true)) else (none))) else (none)) else (none))) else (none))) else (if a0 = 101 then ((domesdayref05_two.f t120).bind fun t144 => (if t120 < 10 then (if 1 ≤ (t144.size : Int) then (if 1 + (t144.extract 1 t144.size).size ≤ 9223372036854775807 then (some ((⟨#[32]⟩ : ByteArray) ++ (t144.extract 1 t144.size), true)) else (none)) else (none)) else (some (t144, true)))) else (if a0 = 122 then (if (mx (mn a2 86400) (-86400)) < 0 then (domesdayref05_One.j0 k (-(mx (mn a2 86400) (-86400))) (⟨#[45]⟩ : ByteArray)) else (domesdayref05_One.j0 k (mx (mn a2 86400) (-86400)) (⟨#[43]⟩ : ByteArray))) else (some ((⟨#[]⟩ : ByteArray), false))))))))))))))))) = some (r1, r2) := H
 have A4 := Aside0.mk A40
 clear A40
 by_cases c5 : a0 = 89
 ·rw [if_pos c5] at H
  have c5b0 : (a0 == 89) = true := beq_iff_eq.mpr c5
  have c5b1 : (a0 != 89) = false := bne_eq_false_iff_eq.mpr c5
  clear c5
  replace H := Option.bind_eq_some_iff.mp H
  obtain ⟨t127, A60, H⟩ := H
  replace H : (some (t127, true)) = some (r1, r2) := H
  have A6 := Aside0.mk A60
  clear A60
  simp only [Option.some.injEq, Prod.mk.injEq] at H
  obtain ⟨rfl, rfl⟩ := H
  go_enter Tryd.func25, Tryd.ntmps25
  go_wp2_with (first | ((with_reducible refine gate_callee (f := 31) rfl ?_); refine goesL_ (some 14) rfl rfl Tryd.func31 (by kernel_rfl) rfl #[.int .i64 a1, .int .i64 a2] rfl (by (try simp only [List.map_toArray, List.map_cons, List.map_nil]); first | done | rfl | (simp only [List.length_drop, List.length_take]; rfl)) ?_; (with_reducible refine (domesdayref04_Of.calls k a1 a2 t118 t119 t120 t121 t122 t123 t124 t125 _ A4.out).mono ?_); rintro e w7 ⟨rfl, hb⟩; refine ⟨_, rfl, ?_⟩; have n0_ := Aside0.mk (below_step (by repeat (first | (with_reducible first | exact HB.out | apply below_alloc | apply pw_below_drewN | apply below_drew1) | exact HB.out)) hb); clear HB; have HB := n0_; clear n0_; (try clear hb); (try clear hb2); (try clear hk); (try clear hi)) | ((with_reducible refine gate_dst (N := 8) rfl ?_); refine box_event ?hg (N := 8) ?hd (cs := #[.int .i64 0, .int .i64 0, .int .i64 0, .int .i64 0, .int .i64 0, .int .i64 0, .int .i64 0, .int .i64 0]) (t := 23) ?hr ?_; (case hd => rfl); (case hg => rfl); (case hr => first | (go_simp; done) | (go_simp; rfl)); intro gb126 hg w8 hbox hb; have n0_ := Aside0.mk (below_step (by repeat (first | (with_reducible first | exact HB.out | apply below_alloc | apply pw_below_drewN | apply below_drew1) | exact HB.out)) hb); have n1_ := Aside0.mk (hbox); have n2_ := Aside0.mk ((by rw [hg]; exact (below_size (by repeat (first | (with_reducible first | exact HB.out | apply below_alloc | apply pw_below_drewN | apply below_drew1) | exact HB.out))) : w.heap.size ≤ gb126)); have n3_ := Aside0.mk ((by rw [hg]; exact (below_size (by repeat (first | (with_reducible first | exact HB.out | apply below_alloc | apply pw_below_drewN | apply below_drew1) | exact HB.out))) : w.heap.size ≤ gb126)); clear HB; have HB := n0_; have BK126 := n1_; have GW126 := n2_; have GE126 := n3_; clear n0_ n1_ n2_ n3_; clear hb hbox hg; have hcz9_0 : w8.cell? ⟨gb126, 0, none⟩ = some (.int .i64 0) := (blk_cell BK126.out 0).trans rfl; have hcz9_1 : w8.cell? ⟨gb126, 1, none⟩ = some (.int .i64 0) := (blk_cell BK126.out 1).trans rfl; have hcz9_2 : w8.cell? ⟨gb126, 2, none⟩ = some (.int .i64 0) := (blk_cell BK126.out 2).trans rfl; have hcz9_3 : w8.cell? ⟨gb126, 3, none⟩ = some (.int .i64 0) := (blk_cell BK126.out 3).trans rfl; have hcz9_4 : w8.cell? ⟨gb126, 4, none⟩ = some (.int .i64 0) := (blk_cell BK126.out 4).trans rfl; have hcz9_5 : w8.cell? ⟨gb126, 5, none⟩ = some (.int .i64 0) := (blk_cell BK126.out 5).trans rfl; have hcz9_6 : w8.cell? ⟨gb126, 6, none⟩ = some (.int .i64 0) := (blk_cell BK126.out 6).trans rfl; have hcz9_7 : w8.cell? ⟨gb126, 7, none⟩ = some (.int .i64 0) := (blk_cell BK126.out 7).trans rfl; have hfz9_0 := blk_frozen BK126.out 0; have hfz9_1 := blk_frozen BK126.out 1; have hfz9_2 := blk_frozen BK126.out 2; have hfz9_3 := blk_frozen BK126.out 3; have hfz9_4 := blk_frozen BK126.out 4; have hfz9_5 := blk_frozen BK126.out 5; have hfz9_6 := blk_frozen BK126.out 6; have hfz9_7 := blk_frozen BK126.out 7) | ((with_reducible refine gate_store (t := 23) (p := 8) rfl ?_); refine store_event (t := 23) (p := 8) (v := ?vo_w10) (w1 := ((((((((w8.setCell ⟨gb126, 0, none⟩ (.int .i64 t118)).setCell ⟨gb126, 1, none⟩ (.int .i64 t119)).setCell ⟨gb126, 2, none⟩ (.int .i64 t120)).setCell ⟨gb126, 3, none⟩ (.int .i64 t121)).setCell ⟨gb126, 4, none⟩ (.int .i64 t122)).setCell ⟨gb126, 5, none⟩ (.int .i64 t123)).setCell ⟨gb126, 6, none⟩ (.int .i64 t124)).setCell ⟨gb126, 7, none⟩ (.int .i64 t125))) ?hg ?ho ?hn ?hr ?_; (case ho => rfl); (case hg => rfl); (case hn => rfl); (case hr => first | (go_simp; done) | (go_simp; rfl)); intro w10 hw; have n0_ : Aside0 (w10.heap[gb126]? = some (.cells #[.int .i64 t118, .int .i64 t119, .int .i64 t120, .int .i64 t121, .int .i64 t122, .int .i64 t123, .int .i64 t124, .int .i64 t125] 23 (0, 0))) := ⟨(by rw [hw]; exact (by (with_reducible repeat (first | refine blk_drewN ?_ _ | refine blk_drew ?_ | refine blk_alloc ?_ _)); refine blk_put (cs := #[.int .i64 t118, .int .i64 t119, .int .i64 t120, .int .i64 t121, .int .i64 t122, .int .i64 t123, .int .i64 t124, .int .i64 0]) ?_ 7 _ (by first | rfl | (simp; done)); (with_reducible repeat (first | refine blk_drewN ?_ _ | refine blk_drew ?_ | refine blk_alloc ?_ _)); refine blk_put (cs := #[.int .i64 t118, .int .i64 t119, .int .i64 t120, .int .i64 t121, .int .i64 t122, .int .i64 t123, .int .i64 0, .int .i64 0]) ?_ 6 _ (by first | rfl | (simp; done)); (with_reducible repeat (first | refine blk_drewN ?_ _ | refine blk_drew ?_ | refine blk_alloc ?_ _)); refine blk_put (cs := #[.int .i64 t118, .int .i64 t119, .int .i64 t120, .int .i64 t121, .int .i64 t122, .int .i64 0, .int .i64 0, .int .i64 0]) ?_ 5 _ (by first | rfl | (simp; done)); (with_reducible repeat (first | refine blk_drewN ?_ _ | refine blk_drew ?_ | refine blk_alloc ?_ _)); refine blk_put (cs := #[.int .i64 t118, .int .i64 t119, .int .i64 t120, .int .i64 t121, .int .i64 0, .int .i64 0, .int .i64 0, .int .i64 0]) ?_ 4 _ (by first | rfl | (simp; done)); (with_reducible repeat (first | refine blk_drewN ?_ _ | refine blk_drew ?_ | refine blk_alloc ?_ _)); refine blk_put (cs := #[.int .i64 t118, .int .i64 t119, .int .i64 t120, .int .i64 0, .int .i64 0, .int .i64 0, .int .i64 0, .int .i64 0]) ?_ 3 _ (by first | rfl | (simp; done)); (with_reducible repeat (first | refine blk_drewN ?_ _ | refine blk_drew ?_ | refine blk_alloc ?_ _)); refine blk_put (cs := #[.int .i64 t118, .int .i64 t119, .int .i64 0, .int .i64 0, .int .i64 0, .int .i64 0, .int .i64 0, .int .i64 0]) ?_ 2 _ (by first | rfl | (simp; done)); (with_reducible repeat (first | refine blk_drewN ?_ _ | refine blk_drew ?_ | refine blk_alloc ?_ _)); refine blk_put (cs := #[.int .i64 t118, .int .i64 0, .int .i64 0, .int .i64 0, .int .i64 0, .int .i64 0, .int .i64 0, .int .i64 0]) ?_ 1 _ (by first | rfl | (simp; done)); (with_reducible repeat (first | refine blk_drewN ?_ _ | refine blk_drew ?_ | refine blk_alloc ?_ _)); refine blk_put (cs := #[.int .i64 0, .int .i64 0, .int .i64 0, .int .i64 0, .int .i64 0, .int .i64 0, .int .i64 0, .int .i64 0]) ?_ 0 _ (by first | rfl | (simp; done)); (with_reducible repeat (first | refine blk_drewN ?_ _ | refine blk_drew ?_ | refine blk_alloc ?_ _)); exact BK126.out))⟩; have n1_ : Aside0 (Below w.heap.size w w10) := ⟨(by rw [hw]; exact (by repeat (first | (with_reducible first | exact HB.out | apply below_alloc | apply pw_below_drewN | apply below_drew1 | refine below_set ?_ GE126.out) | exact HB.out)))⟩; clear hw; clear BK126; clear HB; have BK126 := n0_; have HB := n1_; clear n0_ n1_; have hcz11_0 : w10.cell? ⟨gb126, 0, none⟩ = some (.int .i64 t118) := (blk_cell BK126.out 0).trans rfl; have hcz11_1 : w10.cell? ⟨gb126, 1, none⟩ = some (.int .i64 t119) := (blk_cell BK126.out 1).trans rfl; have hcz11_2 : w10.cell? ⟨gb126, 2, none⟩ = some (.int .i64 t120) := (blk_cell BK126.out 2).trans rfl; have hcz11_3 : w10.cell? ⟨gb126, 3, none⟩ = some (.int .i64 t121) := (blk_cell BK126.out 3).trans rfl; have hcz11_4 : w10.cell? ⟨gb126, 4, none⟩ = some (.int .i64 t122) := (blk_cell BK126.out 4).trans rfl; have hcz11_5 : w10.cell? ⟨gb126, 5, none⟩ = some (.int .i64 t123) := (blk_cell BK126.out 5).trans rfl; have hcz11_6 : w10.cell? ⟨gb126, 6, none⟩ = some (.int .i64 t124) := (blk_cell BK126.out 6).trans rfl; have hcz11_7 : w10.cell? ⟨gb126, 7, none⟩ = some (.int .i64 t125) := (blk_cell BK126.out 7).trans rfl; have hfz11_0 := blk_frozen BK126.out 0; have hfz11_1 := blk_frozen BK126.out 1; have hfz11_2 := blk_frozen BK126.out 2; have hfz11_3 := blk_frozen BK126.out 3; have hfz11_4 := blk_frozen BK126.out 4; have hfz11_5 := blk_frozen BK126.out 5; have hfz11_6 := blk_frozen BK126.out 6; have hfz11_7 := blk_frozen BK126.out 7) | ((with_reducible refine gate_callee (f := 32) rfl ?_); refine goesL_ (some 20) rfl rfl Tryd.func32 (by kernel_rfl) rfl #[.int .i64 t118] rfl (by (try simp only [List.map_toArray, List.map_cons, List.map_nil]); first | done | rfl | (simp only [List.length_drop, List.length_take]; rfl)) ?_; (with_reducible refine (domesdayref01_Dec.calls k t118 t127 _ A6.out).mono ?_); rintro e w' ⟨rfl, ⟨nd, rfl⟩⟩; refine ⟨_, rfl, ?_⟩))
  go_ret2
  exact ⟨by first | rfl | (simp [errW_none, errW_some] <;> rfl) | (simp [*, errW_none, errW_some] <;> rfl), by repeat (first | (with_reducible first | exact HB.out | apply below_alloc | apply pw_below_drewN | apply below_drew1 | refine below_set ?_ GE126.out) | exact HB.out)⟩
 ·rw [if_neg c5] at H
  have c5b0 : (a0 == 89) = false := beq_eq_false_iff_ne.mpr c5
  have c5b1 : (a0 != 89) = true := bne_iff_ne.mpr c5
  by_cases c12 : a0 = 109
  ·rw [if_pos c12] at H
   have c12b0 : (a0 == 109) = true := beq_iff_eq.mpr c12
   have c12b1 : (a0 != 109) = false := bne_eq_false_iff_eq.mpr c12
   clear c12
   replace H := Option.bind_eq_some_iff.mp H
   obtain ⟨t128, A130, H⟩ := H
   replace H : (some (t128, true)) = some (r1, r2) := H
   have A13 := Aside0.mk A130
   clear A130
   simp only [Option.some.injEq, Prod.mk.injEq] at H
   obtain ⟨rfl, rfl⟩ := H
   go_enter Tryd.func25, Tryd.ntmps25
   go_wp2_with (first | ((with_reducible refine gate_callee (f := 31) rfl ?_); refine goesL_ (some 14) rfl rfl Tryd.func31 (by kernel_rfl) rfl #[.int .i64 a1, .int .i64 a2] rfl (by (try simp only [List.map_toArray, List.map_cons, List.map_nil]); first | done | rfl | (simp only [List.length_drop, List.length_take]; rfl)) ?_; (with_reducible refine (domesdayref04_Of.calls k a1 a2 t118 t119 t120 t121 t122 t123 t124 t125 _ A4.out).mono ?_); rintro e w14 ⟨rfl, hb⟩; refine ⟨_, rfl, ?_⟩; have n0_ := Aside0.mk (below_step (by repeat (first | (with_reducible first | exact HB.out | apply below_alloc | apply pw_below_drewN | apply below_drew1) | exact HB.out)) hb); clear HB; have HB := n0_; clear n0_; (try clear hb); (try clear hb2); (try clear hk); (try clear hi)) | ((with_reducible refine gate_dst (N := 8) rfl ?_); refine box_event ?hg (N := 8) ?hd (cs := #[.int .i64 0, .int .i64 0, .int .i64 0, .int .i64 0, .int .i64 0, .int .i64 0, .int .i64 0, .int .i64 0]) (t := 23) ?hr ?_; (case hd => rfl); (case hg => rfl); (case hr => first | (go_simp; done) | (go_simp; rfl)); intro gb126 hg w15 hbox hb; have n0_ := Aside0.mk (below_step (by repeat (first | (with_reducible first | exact HB.out | apply below_alloc | apply pw_below_drewN | apply below_drew1) | exact HB.out)) hb); have n1_ := Aside0.mk (hbox); have n2_ := Aside0.mk ((by rw [hg]; exact (below_size (by repeat (first | (with_reducible first | exact HB.out | apply below_alloc | apply pw_below_drewN | apply below_drew1) | exact HB.out))) : w.heap.size ≤ gb126)); have n3_ := Aside0.mk ((by rw [hg]; exact (below_size (by repeat (first | (with_reducible first | exact HB.out | apply below_alloc | apply pw_below_drewN | apply below_drew1) | exact HB.out))) : w.heap.size ≤ gb126)); clear HB; have HB := n0_; have BK126 := n1_; have GW126 := n2_; have GE126 := n3_; clear n0_ n1_ n2_ n3_; clear hb hbox hg; have hcz16_0 : w15.cell? ⟨gb126, 0, none⟩ = some (.int .i64 0) := (blk_cell BK126.out 0).trans rfl; have hcz16_1 : w15.cell? ⟨gb126, 1, none⟩ = some (.int .i64 0) := (blk_cell BK126.out 1).trans rfl; have hcz16_2 : w15.cell? ⟨gb126, 2, none⟩ = some (.int .i64 0) := (blk_cell BK126.out 2).trans rfl; have hcz16_3 : w15.cell? ⟨gb126, 3, none⟩ = some (.int .i64 0) := (blk_cell BK126.out 3).trans rfl; have hcz16_4 : w15.cell? ⟨gb126, 4, none⟩ = some (.int .i64 0) := (blk_cell BK126.out 4).trans rfl; have hcz16_5 : w15.cell? ⟨gb126, 5, none⟩ = some (.int .i64 0) := (blk_cell BK126.out 5).trans rfl; have hcz16_6 : w15.cell? ⟨gb126, 6, none⟩ = some (.int .i64 0) := (blk_cell BK126.out 6).trans rfl; have hcz16_7 : w15.cell? ⟨gb126, 7, none⟩ = some (.int .i64 0) := (blk_cell BK126.out 7).trans rfl; have hfz16_0 := blk_frozen BK126.out 0; have hfz16_1 := blk_frozen BK126.out 1; have hfz16_2 := blk_frozen BK126.out 2; have hfz16_3 := blk_frozen BK126.out 3; have hfz16_4 := blk_frozen BK126.out 4; have hfz16_5 := blk_frozen BK126.out 5; have hfz16_6 := blk_frozen BK126.out 6; have hfz16_7 := blk_frozen BK126.out 7) | ((with_reducible refine gate_store (t := 23) (p := 8) rfl ?_); refine store_event (t := 23) (p := 8) (v := ?vo_w17) (w1 := ((((((((w15.setCell ⟨gb126, 0, none⟩ (.int .i64 t118)).setCell ⟨gb126, 1, none⟩ (.int .i64 t119)).setCell ⟨gb126, 2, none⟩ (.int .i64 t120)).setCell ⟨gb126, 3, none⟩ (.int .i64 t121)).setCell ⟨gb126, 4, none⟩ (.int .i64 t122)).setCell ⟨gb126, 5, none⟩ (.int .i64 t123)).setCell ⟨gb126, 6, none⟩ (.int .i64 t124)).setCell ⟨gb126, 7, none⟩ (.int .i64 t125))) ?hg ?ho ?hn ?hr ?_; (case ho => rfl); (case hg => rfl); (case hn => rfl); (case hr => first | (go_simp; done) | (go_simp; rfl)); intro w17 hw; have n0_ : Aside0 (w17.heap[gb126]? = some (.cells #[.int .i64 t118, .int .i64 t119, .int .i64 t120, .int .i64 t121, .int .i64 t122, .int .i64 t123, .int .i64 t124, .int .i64 t125] 23 (0, 0))) := ⟨(by rw [hw]; exact (by (with_reducible repeat (first | refine blk_drewN ?_ _ | refine blk_drew ?_ | refine blk_alloc ?_ _)); refine blk_put (cs := #[.int .i64 t118, .int .i64 t119, .int .i64 t120, .int .i64 t121, .int .i64 t122, .int .i64 t123, .int .i64 t124, .int .i64 0]) ?_ 7 _ (by first | rfl | (simp; done)); (with_reducible repeat (first | refine blk_drewN ?_ _ | refine blk_drew ?_ | refine blk_alloc ?_ _)); refine blk_put (cs := #[.int .i64 t118, .int .i64 t119, .int .i64 t120, .int .i64 t121, .int .i64 t122, .int .i64 t123, .int .i64 0, .int .i64 0]) ?_ 6 _ (by first | rfl | (simp; done)); (with_reducible repeat (first | refine blk_drewN ?_ _ | refine blk_drew ?_ | refine blk_alloc ?_ _)); refine blk_put (cs := #[.int .i64 t118, .int .i64 t119, .int .i64 t120, .int .i64 t121, .int .i64 t122, .int .i64 0, .int .i64 0, .int .i64 0]) ?_ 5 _ (by first | rfl | (simp; done)); (with_reducible repeat (first | refine blk_drewN ?_ _ | refine blk_drew ?_ | refine blk_alloc ?_ _)); refine blk_put (cs := #[.int .i64 t118, .int .i64 t119, .int .i64 t120, .int .i64 t121, .int .i64 0, .int .i64 0, .int .i64 0, .int .i64 0]) ?_ 4 _ (by first | rfl | (simp; done)); (with_reducible repeat (first | refine blk_drewN ?_ _ | refine blk_drew ?_ | refine blk_alloc ?_ _)); refine blk_put (cs := #[.int .i64 t118, .int .i64 t119, .int .i64 t120, .int .i64 0, .int .i64 0, .int .i64 0, .int .i64 0, .int .i64 0]) ?_ 3 _ (by first | rfl | (simp; done)); (with_reducible repeat (first | refine blk_drewN ?_ _ | refine blk_drew ?_ | refine blk_alloc ?_ _)); refine blk_put (cs := #[.int .i64 t118, .int .i64 t119, .int .i64 0, .int .i64 0, .int .i64 0, .int .i64 0, .int .i64 0, .int .i64 0]) ?_ 2 _ (by first | rfl | (simp; done)); (with_reducible repeat (first | refine blk_drewN ?_ _ | refine blk_drew ?_ | refine blk_alloc ?_ _)); refine blk_put (cs := #[.int .i64 t118, .int .i64 0, .int .i64 0, .int .i64 0, .int .i64 0, .int .i64 0, .int .i64 0, .int .i64 0]) ?_ 1 _ (by first | rfl | (simp; done)); (with_reducible repeat (first | refine blk_drewN ?_ _ | refine blk_drew ?_ | refine blk_alloc ?_ _)); refine blk_put (cs := #[.int .i64 0, .int .i64 0, .int .i64 0, .int .i64 0, .int .i64 0, .int .i64 0, .int .i64 0, .int .i64 0]) ?_ 0 _ (by first | rfl | (simp; done)); (with_reducible repeat (first | refine blk_drewN ?_ _ | refine blk_drew ?_ | refine blk_alloc ?_ _)); exact BK126.out))⟩; have n1_ : Aside0 (Below w.heap.size w w17) := ⟨(by rw [hw]; exact (by repeat (first | (with_reducible first | exact HB.out | apply below_alloc | apply pw_below_drewN | apply below_drew1 | refine below_set ?_ GE126.out) | exact HB.out)))⟩; clear hw; clear BK126; clear HB; have BK126 := n0_; have HB := n1_; clear n0_ n1_; have hcz18_0 : w17.cell? ⟨gb126, 0, none⟩ = some (.int .i64 t118) := (blk_cell BK126.out 0).trans rfl; have hcz18_1 : w17.cell? ⟨gb126, 1, none⟩ = some (.int .i64 t119) := (blk_cell BK126.out 1).trans rfl; have hcz18_2 : w17.cell? ⟨gb126, 2, none⟩ = some (.int .i64 t120) := (blk_cell BK126.out 2).trans rfl; have hcz18_3 : w17.cell? ⟨gb126, 3, none⟩ = some (.int .i64 t121) := (blk_cell BK126.out 3).trans rfl; have hcz18_4 : w17.cell? ⟨gb126, 4, none⟩ = some (.int .i64 t122) := (blk_cell BK126.out 4).trans rfl; have hcz18_5 : w17.cell? ⟨gb126, 5, none⟩ = some (.int .i64 t123) := (blk_cell BK126.out 5).trans rfl; have hcz18_6 : w17.cell? ⟨gb126, 6, none⟩ = some (.int .i64 t124) := (blk_cell BK126.out 6).trans rfl; have hcz18_7 : w17.cell? ⟨gb126, 7, none⟩ = some (.int .i64 t125) := (blk_cell BK126.out 7).trans rfl; have hfz18_0 := blk_frozen BK126.out 0; have hfz18_1 := blk_frozen BK126.out 1; have hfz18_2 := blk_frozen BK126.out 2; have hfz18_3 := blk_frozen BK126.out 3; have hfz18_4 := blk_frozen BK126.out 4; have hfz18_5 := blk_frozen BK126.out 5; have hfz18_6 := blk_frozen BK126.out 6; have hfz18_7 := blk_frozen BK126.out 7) | ((with_reducible refine gate_callee (f := 33) rfl ?_); refine goesL_ (some 25) rfl rfl Tryd.func33 (by kernel_rfl) rfl #[.int .i64 t119] rfl (by (try simp only [List.map_toArray, List.map_cons, List.map_nil]); first | done | rfl | (simp only [List.length_drop, List.length_take]; rfl)) ?_; (with_reducible refine (domesdayref05_two.calls t119 t128 _ A13.out).mono ?_); rintro e w19 ⟨rfl, hb⟩; refine ⟨_, rfl, ?_⟩; have n0_ := Aside0.mk (blk_below (g := gb126) (o := .cells #[.int .i64 t118, .int .i64 t119, .int .i64 t120, .int .i64 t121, .int .i64 t122, .int .i64 t123, .int .i64 t124, .int .i64 t125] 23 (0, 0)) (by (with_reducible repeat (first | refine blk_drewN ?_ _ | refine blk_drew ?_ | refine blk_alloc ?_ _)); exact BK126.out) hb); have n1_ := Aside0.mk (below_step (by repeat (first | (with_reducible first | exact HB.out | apply below_alloc | apply pw_below_drewN | apply below_drew1 | refine below_set ?_ GE126.out) | exact HB.out)) hb); clear BK126; clear HB; have BK126 := n0_; have HB := n1_; clear n0_ n1_; (try clear hb); (try clear hb2); (try clear hk); (try clear hi)))
   go_ret2
   exact ⟨by first | rfl | (simp [errW_none, errW_some] <;> rfl) | (simp [*, errW_none, errW_some] <;> rfl), by repeat (first | (with_reducible first | exact HB.out | apply below_alloc | apply pw_below_drewN | apply below_drew1 | refine below_set ?_ GE126.out) | exact HB.out)⟩
  ·rw [if_neg c12] at H
   have c12b0 : (a0 == 109) = false := beq_eq_false_iff_ne.mpr c12
   have c12b1 : (a0 != 109) = true := bne_iff_ne.mpr c12
   by_cases c20 : a0 = 100
   ·rw [if_pos c20] at H
    have c20b0 : (a0 == 100) = true := beq_iff_eq.mpr c20
    have c20b1 : (a0 != 100) = false := bne_eq_false_iff_eq.mpr c20
    clear c20
    replace H := Option.bind_eq_some_iff.mp H
    obtain ⟨t129, A210, H⟩ := H
    replace H : (some (t129, true)) = some (r1, r2) := H
    have A21 := Aside0.mk A210
    clear A210
    simp only [Option.some.injEq, Prod.mk.injEq] at H
    obtain ⟨rfl, rfl⟩ := H
    go_enter Tryd.func25, Tryd.ntmps25
    go_wp2_with (first | ((with_reducible refine gate_callee (f := 31) rfl ?_); refine goesL_ (some 14) rfl rfl Tryd.func31 (by kernel_rfl) rfl #[.int .i64 a1, .int .i64 a2] rfl (by (try simp only [List.map_toArray, List.map_cons, List.map_nil]); first | done | rfl | (simp only [List.length_drop, List.length_take]; rfl)) ?_; (with_reducible refine (domesdayref04_Of.calls k a1 a2 t118 t119 t120 t121 t122 t123 t124 t125 _ A4.out).mono ?_); rintro e w22 ⟨rfl, hb⟩; refine ⟨_, rfl, ?_⟩; have n0_ := Aside0.mk (below_step (by repeat (first | (with_reducible first | exact HB.out | apply below_alloc | apply pw_below_drewN | apply below_drew1) | exact HB.out)) hb); clear HB; have HB := n0_; clear n0_; (try clear hb); (try clear hb2); (try clear hk); (try clear hi)) | ((with_reducible refine gate_dst (N := 8) rfl ?_); refine box_event ?hg (N := 8) ?hd (cs := #[.int .i64 0, .int .i64 0, .int .i64 0, .int .i64 0, .int .i64 0, .int .i64 0, .int .i64 0, .int .i64 0]) (t := 23) ?hr ?_; (case hd => rfl); (case hg => rfl); (case hr => first | (go_simp; done) | (go_simp; rfl)); intro gb126 hg w23 hbox hb; have n0_ := Aside0.mk (below_step (by repeat (first | (with_reducible first | exact HB.out | apply below_alloc | apply pw_below_drewN | apply below_drew1) | exact HB.out)) hb); have n1_ := Aside0.mk (hbox); have n2_ := Aside0.mk ((by rw [hg]; exact (below_size (by repeat (first | (with_reducible first | exact HB.out | apply below_alloc | apply pw_below_drewN | apply below_drew1) | exact HB.out))) : w.heap.size ≤ gb126)); have n3_ := Aside0.mk ((by rw [hg]; exact (below_size (by repeat (first | (with_reducible first | exact HB.out | apply below_alloc | apply pw_below_drewN | apply below_drew1) | exact HB.out))) : w.heap.size ≤ gb126)); clear HB; have HB := n0_; have BK126 := n1_; have GW126 := n2_; have GE126 := n3_; clear n0_ n1_ n2_ n3_; clear hb hbox hg; have hcz24_0 : w23.cell? ⟨gb126, 0, none⟩ = some (.int .i64 0) := (blk_cell BK126.out 0).trans rfl; have hcz24_1 : w23.cell? ⟨gb126, 1, none⟩ = some (.int .i64 0) := (blk_cell BK126.out 1).trans rfl; have hcz24_2 : w23.cell? ⟨gb126, 2, none⟩ = some (.int .i64 0) := (blk_cell BK126.out 2).trans rfl; have hcz24_3 : w23.cell? ⟨gb126, 3, none⟩ = some (.int .i64 0) := (blk_cell BK126.out 3).trans rfl; have hcz24_4 : w23.cell? ⟨gb126, 4, none⟩ = some (.int .i64 0) := (blk_cell BK126.out 4).trans rfl; have hcz24_5 : w23.cell? ⟨gb126, 5, none⟩ = some (.int .i64 0) := (blk_cell BK126.out 5).trans rfl; have hcz24_6 : w23.cell? ⟨gb126, 6, none⟩ = some (.int .i64 0) := (blk_cell BK126.out 6).trans rfl; have hcz24_7 : w23.cell? ⟨gb126, 7, none⟩ = some (.int .i64 0) := (blk_cell BK126.out 7).trans rfl; have hfz24_0 := blk_frozen BK126.out 0; have hfz24_1 := blk_frozen BK126.out 1; have hfz24_2 := blk_frozen BK126.out 2; have hfz24_3 := blk_frozen BK126.out 3; have hfz24_4 := blk_frozen BK126.out 4; have hfz24_5 := blk_frozen BK126.out 5; have hfz24_6 := blk_frozen BK126.out 6; have hfz24_7 := blk_frozen BK126.out 7) | ((with_reducible refine gate_store (t := 23) (p := 8) rfl ?_); refine store_event (t := 23) (p := 8) (v := ?vo_w25) (w1 := ((((((((w23.setCell ⟨gb126, 0, none⟩ (.int .i64 t118)).setCell ⟨gb126, 1, none⟩ (.int .i64 t119)).setCell ⟨gb126, 2, none⟩ (.int .i64 t120)).setCell ⟨gb126, 3, none⟩ (.int .i64 t121)).setCell ⟨gb126, 4, none⟩ (.int .i64 t122)).setCell ⟨gb126, 5, none⟩ (.int .i64 t123)).setCell ⟨gb126, 6, none⟩ (.int .i64 t124)).setCell ⟨gb126, 7, none⟩ (.int .i64 t125))) ?hg ?ho ?hn ?hr ?_; (case ho => rfl); (case hg => rfl); (case hn => rfl); (case hr => first | (go_simp; done) | (go_simp; rfl)); intro w25 hw; have n0_ : Aside0 (w25.heap[gb126]? = some (.cells #[.int .i64 t118, .int .i64 t119, .int .i64 t120, .int .i64 t121, .int .i64 t122, .int .i64 t123, .int .i64 t124, .int .i64 t125] 23 (0, 0))) := ⟨(by rw [hw]; exact (by (with_reducible repeat (first | refine blk_drewN ?_ _ | refine blk_drew ?_ | refine blk_alloc ?_ _)); refine blk_put (cs := #[.int .i64 t118, .int .i64 t119, .int .i64 t120, .int .i64 t121, .int .i64 t122, .int .i64 t123, .int .i64 t124, .int .i64 0]) ?_ 7 _ (by first | rfl | (simp; done)); (with_reducible repeat (first | refine blk_drewN ?_ _ | refine blk_drew ?_ | refine blk_alloc ?_ _)); refine blk_put (cs := #[.int .i64 t118, .int .i64 t119, .int .i64 t120, .int .i64 t121, .int .i64 t122, .int .i64 t123, .int .i64 0, .int .i64 0]) ?_ 6 _ (by first | rfl | (simp; done)); (with_reducible repeat (first | refine blk_drewN ?_ _ | refine blk_drew ?_ | refine blk_alloc ?_ _)); refine blk_put (cs := #[.int .i64 t118, .int .i64 t119, .int .i64 t120, .int .i64 t121, .int .i64 t122, .int .i64 0, .int .i64 0, .int .i64 0]) ?_ 5 _ (by first | rfl | (simp; done)); (with_reducible repeat (first | refine blk_drewN ?_ _ | refine blk_drew ?_ | refine blk_alloc ?_ _)); refine blk_put (cs := #[.int .i64 t118, .int .i64 t119, .int .i64 t120, .int .i64 t121, .int .i64 0, .int .i64 0, .int .i64 0, .int .i64 0]) ?_ 4 _ (by first | rfl | (simp; done)); (with_reducible repeat (first | refine blk_drewN ?_ _ | refine blk_drew ?_ | refine blk_alloc ?_ _)); refine blk_put (cs := #[.int .i64 t118, .int .i64 t119, .int .i64 t120, .int .i64 0, .int .i64 0, .int .i64 0, .int .i64 0, .int .i64 0]) ?_ 3 _ (by first | rfl | (simp; done)); (with_reducible repeat (first | refine blk_drewN ?_ _ | refine blk_drew ?_ | refine blk_alloc ?_ _)); refine blk_put (cs := #[.int .i64 t118, .int .i64 t119, .int .i64 0, .int .i64 0, .int .i64 0, .int .i64 0, .int .i64 0, .int .i64 0]) ?_ 2 _ (by first | rfl | (simp; done)); (with_reducible repeat (first | refine blk_drewN ?_ _ | refine blk_drew ?_ | refine blk_alloc ?_ _)); refine blk_put (cs := #[.int .i64 t118, .int .i64 0, .int .i64 0, .int .i64 0, .int .i64 0, .int .i64 0, .int .i64 0, .int .i64 0]) ?_ 1 _ (by first | rfl | (simp; done)); (with_reducible repeat (first | refine blk_drewN ?_ _ | refine blk_drew ?_ | refine blk_alloc ?_ _)); refine blk_put (cs := #[.int .i64 0, .int .i64 0, .int .i64 0, .int .i64 0, .int .i64 0, .int .i64 0, .int .i64 0, .int .i64 0]) ?_ 0 _ (by first | rfl | (simp; done)); (with_reducible repeat (first | refine blk_drewN ?_ _ | refine blk_drew ?_ | refine blk_alloc ?_ _)); exact BK126.out))⟩; have n1_ : Aside0 (Below w.heap.size w w25) := ⟨(by rw [hw]; exact (by repeat (first | (with_reducible first | exact HB.out | apply below_alloc | apply pw_below_drewN | apply below_drew1 | refine below_set ?_ GE126.out) | exact HB.out)))⟩; clear hw; clear BK126; clear HB; have BK126 := n0_; have HB := n1_; clear n0_ n1_; have hcz26_0 : w25.cell? ⟨gb126, 0, none⟩ = some (.int .i64 t118) := (blk_cell BK126.out 0).trans rfl; have hcz26_1 : w25.cell? ⟨gb126, 1, none⟩ = some (.int .i64 t119) := (blk_cell BK126.out 1).trans rfl; have hcz26_2 : w25.cell? ⟨gb126, 2, none⟩ = some (.int .i64 t120) := (blk_cell BK126.out 2).trans rfl; have hcz26_3 : w25.cell? ⟨gb126, 3, none⟩ = some (.int .i64 t121) := (blk_cell BK126.out 3).trans rfl; have hcz26_4 : w25.cell? ⟨gb126, 4, none⟩ = some (.int .i64 t122) := (blk_cell BK126.out 4).trans rfl; have hcz26_5 : w25.cell? ⟨gb126, 5, none⟩ = some (.int .i64 t123) := (blk_cell BK126.out 5).trans rfl; have hcz26_6 : w25.cell? ⟨gb126, 6, none⟩ = some (.int .i64 t124) := (blk_cell BK126.out 6).trans rfl; have hcz26_7 : w25.cell? ⟨gb126, 7, none⟩ = some (.int .i64 t125) := (blk_cell BK126.out 7).trans rfl; have hfz26_0 := blk_frozen BK126.out 0; have hfz26_1 := blk_frozen BK126.out 1; have hfz26_2 := blk_frozen BK126.out 2; have hfz26_3 := blk_frozen BK126.out 3; have hfz26_4 := blk_frozen BK126.out 4; have hfz26_5 := blk_frozen BK126.out 5; have hfz26_6 := blk_frozen BK126.out 6; have hfz26_7 := blk_frozen BK126.out 7) | ((with_reducible refine gate_callee (f := 33) rfl ?_); refine goesL_ (some 30) rfl rfl Tryd.func33 (by kernel_rfl) rfl #[.int .i64 t120] rfl (by (try simp only [List.map_toArray, List.map_cons, List.map_nil]); first | done | rfl | (simp only [List.length_drop, List.length_take]; rfl)) ?_; (with_reducible refine (domesdayref05_two.calls t120 t129 _ A21.out).mono ?_); rintro e w27 ⟨rfl, hb⟩; refine ⟨_, rfl, ?_⟩; have n0_ := Aside0.mk (blk_below (g := gb126) (o := .cells #[.int .i64 t118, .int .i64 t119, .int .i64 t120, .int .i64 t121, .int .i64 t122, .int .i64 t123, .int .i64 t124, .int .i64 t125] 23 (0, 0)) (by (with_reducible repeat (first | refine blk_drewN ?_ _ | refine blk_drew ?_ | refine blk_alloc ?_ _)); exact BK126.out) hb); have n1_ := Aside0.mk (below_step (by repeat (first | (with_reducible first | exact HB.out | apply below_alloc | apply pw_below_drewN | apply below_drew1 | refine below_set ?_ GE126.out) | exact HB.out)) hb); clear BK126; clear HB; have BK126 := n0_; have HB := n1_; clear n0_ n1_; (try clear hb); (try clear hb2); (try clear hk); (try clear hi)))
    go_ret2
    exact ⟨by first | rfl | (simp [errW_none, errW_some] <;> rfl) | (simp [*, errW_none, errW_some] <;> rfl), by repeat (first | (with_reducible first | exact HB.out | apply below_alloc | apply pw_below_drewN | apply below_drew1 | refine below_set ?_ GE126.out) | exact HB.out)⟩
   ·rw [if_neg c20] at H
    have c20b0 : (a0 == 100) = false := beq_eq_false_iff_ne.mpr c20
    have c20b1 : (a0 != 100) = true := bne_iff_ne.mpr c20
    by_cases c28 : a0 = 72
    ·rw [if_pos c28] at H
     have c28b0 : (a0 == 72) = true := beq_iff_eq.mpr c28
     have c28b1 : (a0 != 72) = false := bne_eq_false_iff_eq.mpr c28
     clear c28
     replace H := Option.bind_eq_some_iff.mp H
     obtain ⟨t130, A290, H⟩ := H
     replace H : (some (t130, true)) = some (r1, r2) := H
     have A29 := Aside0.mk A290
     clear A290
     simp only [Option.some.injEq, Prod.mk.injEq] at H
     obtain ⟨rfl, rfl⟩ := H
     go_enter Tryd.func25, Tryd.ntmps25
     go_wp2_with (first | ((with_reducible refine gate_callee (f := 31) rfl ?_); refine goesL_ (some 14) rfl rfl Tryd.func31 (by kernel_rfl) rfl #[.int .i64 a1, .int .i64 a2] rfl (by (try simp only [List.map_toArray, List.map_cons, List.map_nil]); first | done | rfl | (simp only [List.length_drop, List.length_take]; rfl)) ?_; (with_reducible refine (domesdayref04_Of.calls k a1 a2 t118 t119 t120 t121 t122 t123 t124 t125 _ A4.out).mono ?_); rintro e w30 ⟨rfl, hb⟩; refine ⟨_, rfl, ?_⟩; have n0_ := Aside0.mk (below_step (by repeat (first | (with_reducible first | exact HB.out | apply below_alloc | apply pw_below_drewN | apply below_drew1) | exact HB.out)) hb); clear HB; have HB := n0_; clear n0_; (try clear hb); (try clear hb2); (try clear hk); (try clear hi)) | ((with_reducible refine gate_dst (N := 8) rfl ?_); refine box_event ?hg (N := 8) ?hd (cs := #[.int .i64 0, .int .i64 0, .int .i64 0, .int .i64 0, .int .i64 0, .int .i64 0, .int .i64 0, .int .i64 0]) (t := 23) ?hr ?_; (case hd => rfl); (case hg => rfl); (case hr => first | (go_simp; done) | (go_simp; rfl)); intro gb126 hg w31 hbox hb; have n0_ := Aside0.mk (below_step (by repeat (first | (with_reducible first | exact HB.out | apply below_alloc | apply pw_below_drewN | apply below_drew1) | exact HB.out)) hb); have n1_ := Aside0.mk (hbox); have n2_ := Aside0.mk ((by rw [hg]; exact (below_size (by repeat (first | (with_reducible first | exact HB.out | apply below_alloc | apply pw_below_drewN | apply below_drew1) | exact HB.out))) : w.heap.size ≤ gb126)); have n3_ := Aside0.mk ((by rw [hg]; exact (below_size (by repeat (first | (with_reducible first | exact HB.out | apply below_alloc | apply pw_below_drewN | apply below_drew1) | exact HB.out))) : w.heap.size ≤ gb126)); clear HB; have HB := n0_; have BK126 := n1_; have GW126 := n2_; have GE126 := n3_; clear n0_ n1_ n2_ n3_; clear hb hbox hg; have hcz32_0 : w31.cell? ⟨gb126, 0, none⟩ = some (.int .i64 0) := (blk_cell BK126.out 0).trans rfl; have hcz32_1 : w31.cell? ⟨gb126, 1, none⟩ = some (.int .i64 0) := (blk_cell BK126.out 1).trans rfl; have hcz32_2 : w31.cell? ⟨gb126, 2, none⟩ = some (.int .i64 0) := (blk_cell BK126.out 2).trans rfl; have hcz32_3 : w31.cell? ⟨gb126, 3, none⟩ = some (.int .i64 0) := (blk_cell BK126.out 3).trans rfl; have hcz32_4 : w31.cell? ⟨gb126, 4, none⟩ = some (.int .i64 0) := (blk_cell BK126.out 4).trans rfl; have hcz32_5 : w31.cell? ⟨gb126, 5, none⟩ = some (.int .i64 0) := (blk_cell BK126.out 5).trans rfl; have hcz32_6 : w31.cell? ⟨gb126, 6, none⟩ = some (.int .i64 0) := (blk_cell BK126.out 6).trans rfl; have hcz32_7 : w31.cell? ⟨gb126, 7, none⟩ = some (.int .i64 0) := (blk_cell BK126.out 7).trans rfl; have hfz32_0 := blk_frozen BK126.out 0; have hfz32_1 := blk_frozen BK126.out 1; have hfz32_2 := blk_frozen BK126.out 2; have hfz32_3 := blk_frozen BK126.out 3; have hfz32_4 := blk_frozen BK126.out 4; have hfz32_5 := blk_frozen BK126.out 5; have hfz32_6 := blk_frozen BK126.out 6; have hfz32_7 := blk_frozen BK126.out 7) | ((with_reducible refine gate_store (t := 23) (p := 8) rfl ?_); refine store_event (t := 23) (p := 8) (v := ?vo_w33) (w1 := ((((((((w31.setCell ⟨gb126, 0, none⟩ (.int .i64 t118)).setCell ⟨gb126, 1, none⟩ (.int .i64 t119)).setCell ⟨gb126, 2, none⟩ (.int .i64 t120)).setCell ⟨gb126, 3, none⟩ (.int .i64 t121)).setCell ⟨gb126, 4, none⟩ (.int .i64 t122)).setCell ⟨gb126, 5, none⟩ (.int .i64 t123)).setCell ⟨gb126, 6, none⟩ (.int .i64 t124)).setCell ⟨gb126, 7, none⟩ (.int .i64 t125))) ?hg ?ho ?hn ?hr ?_; (case ho => rfl); (case hg => rfl); (case hn => rfl); (case hr => first | (go_simp; done) | (go_simp; rfl)); intro w33 hw; have n0_ : Aside0 (w33.heap[gb126]? = some (.cells #[.int .i64 t118, .int .i64 t119, .int .i64 t120, .int .i64 t121, .int .i64 t122, .int .i64 t123, .int .i64 t124, .int .i64 t125] 23 (0, 0))) := ⟨(by rw [hw]; exact (by (with_reducible repeat (first | refine blk_drewN ?_ _ | refine blk_drew ?_ | refine blk_alloc ?_ _)); refine blk_put (cs := #[.int .i64 t118, .int .i64 t119, .int .i64 t120, .int .i64 t121, .int .i64 t122, .int .i64 t123, .int .i64 t124, .int .i64 0]) ?_ 7 _ (by first | rfl | (simp; done)); (with_reducible repeat (first | refine blk_drewN ?_ _ | refine blk_drew ?_ | refine blk_alloc ?_ _)); refine blk_put (cs := #[.int .i64 t118, .int .i64 t119, .int .i64 t120, .int .i64 t121, .int .i64 t122, .int .i64 t123, .int .i64 0, .int .i64 0]) ?_ 6 _ (by first | rfl | (simp; done)); (with_reducible repeat (first | refine blk_drewN ?_ _ | refine blk_drew ?_ | refine blk_alloc ?_ _)); refine blk_put (cs := #[.int .i64 t118, .int .i64 t119, .int .i64 t120, .int .i64 t121, .int .i64 t122, .int .i64 0, .int .i64 0, .int .i64 0]) ?_ 5 _ (by first | rfl | (simp; done)); (with_reducible repeat (first | refine blk_drewN ?_ _ | refine blk_drew ?_ | refine blk_alloc ?_ _)); refine blk_put (cs := #[.int .i64 t118, .int .i64 t119, .int .i64 t120, .int .i64 t121, .int .i64 0, .int .i64 0, .int .i64 0, .int .i64 0]) ?_ 4 _ (by first | rfl | (simp; done)); (with_reducible repeat (first | refine blk_drewN ?_ _ | refine blk_drew ?_ | refine blk_alloc ?_ _)); refine blk_put (cs := #[.int .i64 t118, .int .i64 t119, .int .i64 t120, .int .i64 0, .int .i64 0, .int .i64 0, .int .i64 0, .int .i64 0]) ?_ 3 _ (by first | rfl | (simp; done)); (with_reducible repeat (first | refine blk_drewN ?_ _ | refine blk_drew ?_ | refine blk_alloc ?_ _)); refine blk_put (cs := #[.int .i64 t118, .int .i64 t119, .int .i64 0, .int .i64 0, .int .i64 0, .int .i64 0, .int .i64 0, .int .i64 0]) ?_ 2 _ (by first | rfl | (simp; done)); (with_reducible repeat (first | refine blk_drewN ?_ _ | refine blk_drew ?_ | refine blk_alloc ?_ _)); refine blk_put (cs := #[.int .i64 t118, .int .i64 0, .int .i64 0, .int .i64 0, .int .i64 0, .int .i64 0, .int .i64 0, .int .i64 0]) ?_ 1 _ (by first | rfl | (simp; done)); (with_reducible repeat (first | refine blk_drewN ?_ _ | refine blk_drew ?_ | refine blk_alloc ?_ _)); refine blk_put (cs := #[.int .i64 0, .int .i64 0, .int .i64 0, .int .i64 0, .int .i64 0, .int .i64 0, .int .i64 0, .int .i64 0]) ?_ 0 _ (by first | rfl | (simp; done)); (with_reducible repeat (first | refine blk_drewN ?_ _ | refine blk_drew ?_ | refine blk_alloc ?_ _)); exact BK126.out))⟩; have n1_ : Aside0 (Below w.heap.size w w33) := ⟨(by rw [hw]; exact (by repeat (first | (with_reducible first | exact HB.out | apply below_alloc | apply pw_below_drewN | apply below_drew1 | refine below_set ?_ GE126.out) | exact HB.out)))⟩; clear hw; clear BK126; clear HB; have BK126 := n0_; have HB := n1_; clear n0_ n1_; have hcz34_0 : w33.cell? ⟨gb126, 0, none⟩ = some (.int .i64 t118) := (blk_cell BK126.out 0).trans rfl; have hcz34_1 : w33.cell? ⟨gb126, 1, none⟩ = some (.int .i64 t119) := (blk_cell BK126.out 1).trans rfl; have hcz34_2 : w33.cell? ⟨gb126, 2, none⟩ = some (.int .i64 t120) := (blk_cell BK126.out 2).trans rfl; have hcz34_3 : w33.cell? ⟨gb126, 3, none⟩ = some (.int .i64 t121) := (blk_cell BK126.out 3).trans rfl; have hcz34_4 : w33.cell? ⟨gb126, 4, none⟩ = some (.int .i64 t122) := (blk_cell BK126.out 4).trans rfl; have hcz34_5 : w33.cell? ⟨gb126, 5, none⟩ = some (.int .i64 t123) := (blk_cell BK126.out 5).trans rfl; have hcz34_6 : w33.cell? ⟨gb126, 6, none⟩ = some (.int .i64 t124) := (blk_cell BK126.out 6).trans rfl; have hcz34_7 : w33.cell? ⟨gb126, 7, none⟩ = some (.int .i64 t125) := (blk_cell BK126.out 7).trans rfl; have hfz34_0 := blk_frozen BK126.out 0; have hfz34_1 := blk_frozen BK126.out 1; have hfz34_2 := blk_frozen BK126.out 2; have hfz34_3 := blk_frozen BK126.out 3; have hfz34_4 := blk_frozen BK126.out 4; have hfz34_5 := blk_frozen BK126.out 5; have hfz34_6 := blk_frozen BK126.out 6; have hfz34_7 := blk_frozen BK126.out 7) | ((with_reducible refine gate_callee (f := 33) rfl ?_); refine goesL_ (some 35) rfl rfl Tryd.func33 (by kernel_rfl) rfl #[.int .i64 t121] rfl (by (try simp only [List.map_toArray, List.map_cons, List.map_nil]); first | done | rfl | (simp only [List.length_drop, List.length_take]; rfl)) ?_; (with_reducible refine (domesdayref05_two.calls t121 t130 _ A29.out).mono ?_); rintro e w35 ⟨rfl, hb⟩; refine ⟨_, rfl, ?_⟩; have n0_ := Aside0.mk (blk_below (g := gb126) (o := .cells #[.int .i64 t118, .int .i64 t119, .int .i64 t120, .int .i64 t121, .int .i64 t122, .int .i64 t123, .int .i64 t124, .int .i64 t125] 23 (0, 0)) (by (with_reducible repeat (first | refine blk_drewN ?_ _ | refine blk_drew ?_ | refine blk_alloc ?_ _)); exact BK126.out) hb); have n1_ := Aside0.mk (below_step (by repeat (first | (with_reducible first | exact HB.out | apply below_alloc | apply pw_below_drewN | apply below_drew1 | refine below_set ?_ GE126.out) | exact HB.out)) hb); clear BK126; clear HB; have BK126 := n0_; have HB := n1_; clear n0_ n1_; (try clear hb); (try clear hb2); (try clear hk); (try clear hi)))
     go_ret2
     exact ⟨by first | rfl | (simp [errW_none, errW_some] <;> rfl) | (simp [*, errW_none, errW_some] <;> rfl), by repeat (first | (with_reducible first | exact HB.out | apply below_alloc | apply pw_below_drewN | apply below_drew1 | refine below_set ?_ GE126.out) | exact HB.out)⟩
    ·rw [if_neg c28] at H
     have c28b0 : (a0 == 72) = false := beq_eq_false_iff_ne.mpr c28
     have c28b1 : (a0 != 72) = true := bne_iff_ne.mpr c28
     by_cases c36 : a0 = 77
     ·rw [if_pos c36] at H
      have c36b0 : (a0 == 77) = true := beq_iff_eq.mpr c36
      have c36b1 : (a0 != 77) = false := bne_eq_false_iff_eq.mpr c36
      clear c36
      replace H := Option.bind_eq_some_iff.mp H
      obtain ⟨t131, A370, H⟩ := H
      replace H : (some (t131, true)) = some (r1, r2) := H
      have A37 := Aside0.mk A370
      clear A370
      simp only [Option.some.injEq, Prod.mk.injEq] at H
      obtain ⟨rfl, rfl⟩ := H
      go_enter Tryd.func25, Tryd.ntmps25
      go_wp2_with (first | ((with_reducible refine gate_callee (f := 31) rfl ?_); refine goesL_ (some 14) rfl rfl Tryd.func31 (by kernel_rfl) rfl #[.int .i64 a1, .int .i64 a2] rfl (by (try simp only [List.map_toArray, List.map_cons, List.map_nil]); first | done | rfl | (simp only [List.length_drop, List.length_take]; rfl)) ?_; (with_reducible refine (domesdayref04_Of.calls k a1 a2 t118 t119 t120 t121 t122 t123 t124 t125 _ A4.out).mono ?_); rintro e w38 ⟨rfl, hb⟩; refine ⟨_, rfl, ?_⟩; have n0_ := Aside0.mk (below_step (by repeat (first | (with_reducible first | exact HB.out | apply below_alloc | apply pw_below_drewN | apply below_drew1) | exact HB.out)) hb); clear HB; have HB := n0_; clear n0_; (try clear hb); (try clear hb2); (try clear hk); (try clear hi)) | ((with_reducible refine gate_dst (N := 8) rfl ?_); refine box_event ?hg (N := 8) ?hd (cs := #[.int .i64 0, .int .i64 0, .int .i64 0, .int .i64 0, .int .i64 0, .int .i64 0, .int .i64 0, .int .i64 0]) (t := 23) ?hr ?_; (case hd => rfl); (case hg => rfl); (case hr => first | (go_simp; done) | (go_simp; rfl)); intro gb126 hg w39 hbox hb; have n0_ := Aside0.mk (below_step (by repeat (first | (with_reducible first | exact HB.out | apply below_alloc | apply pw_below_drewN | apply below_drew1) | exact HB.out)) hb); have n1_ := Aside0.mk (hbox); have n2_ := Aside0.mk ((by rw [hg]; exact (below_size (by repeat (first | (with_reducible first | exact HB.out | apply below_alloc | apply pw_below_drewN | apply below_drew1) | exact HB.out))) : w.heap.size ≤ gb126)); have n3_ := Aside0.mk ((by rw [hg]; exact (below_size (by repeat (first | (with_reducible first | exact HB.out | apply below_alloc | apply pw_below_drewN | apply below_drew1) | exact HB.out))) : w.heap.size ≤ gb126)); clear HB; have HB := n0_; have BK126 := n1_; have GW126 := n2_; have GE126 := n3_; clear n0_ n1_ n2_ n3_; clear hb hbox hg; have hcz40_0 : w39.cell? ⟨gb126, 0, none⟩ = some (.int .i64 0) := (blk_cell BK126.out 0).trans rfl; have hcz40_1 : w39.cell? ⟨gb126, 1, none⟩ = some (.int .i64 0) := (blk_cell BK126.out 1).trans rfl; have hcz40_2 : w39.cell? ⟨gb126, 2, none⟩ = some (.int .i64 0) := (blk_cell BK126.out 2).trans rfl; have hcz40_3 : w39.cell? ⟨gb126, 3, none⟩ = some (.int .i64 0) := (blk_cell BK126.out 3).trans rfl; have hcz40_4 : w39.cell? ⟨gb126, 4, none⟩ = some (.int .i64 0) := (blk_cell BK126.out 4).trans rfl; have hcz40_5 : w39.cell? ⟨gb126, 5, none⟩ = some (.int .i64 0) := (blk_cell BK126.out 5).trans rfl; have hcz40_6 : w39.cell? ⟨gb126, 6, none⟩ = some (.int .i64 0) := (blk_cell BK126.out 6).trans rfl; have hcz40_7 : w39.cell? ⟨gb126, 7, none⟩ = some (.int .i64 0) := (blk_cell BK126.out 7).trans rfl; have hfz40_0 := blk_frozen BK126.out 0; have hfz40_1 := blk_frozen BK126.out 1; have hfz40_2 := blk_frozen BK126.out 2; have hfz40_3 := blk_frozen BK126.out 3; have hfz40_4 := blk_frozen BK126.out 4; have hfz40_5 := blk_frozen BK126.out 5; have hfz40_6 := blk_frozen BK126.out 6; have hfz40_7 := blk_frozen BK126.out 7) | ((with_reducible refine gate_store (t := 23) (p := 8) rfl ?_); refine store_event (t := 23) (p := 8) (v := ?vo_w41) (w1 := ((((((((w39.setCell ⟨gb126, 0, none⟩ (.int .i64 t118)).setCell ⟨gb126, 1, none⟩ (.int .i64 t119)).setCell ⟨gb126, 2, none⟩ (.int .i64 t120)).setCell ⟨gb126, 3, none⟩ (.int .i64 t121)).setCell ⟨gb126, 4, none⟩ (.int .i64 t122)).setCell ⟨gb126, 5, none⟩ (.int .i64 t123)).setCell ⟨gb126, 6, none⟩ (.int .i64 t124)).setCell ⟨gb126, 7, none⟩ (.int .i64 t125))) ?hg ?ho ?hn ?hr ?_; (case ho => rfl); (case hg => rfl); (case hn => rfl); (case hr => first | (go_simp; done) | (go_simp; rfl)); intro w41 hw; have n0_ : Aside0 (w41.heap[gb126]? = some (.cells #[.int .i64 t118, .int .i64 t119, .int .i64 t120, .int .i64 t121, .int .i64 t122, .int .i64 t123, .int .i64 t124, .int .i64 t125] 23 (0, 0))) := ⟨(by rw [hw]; exact (by (with_reducible repeat (first | refine blk_drewN ?_ _ | refine blk_drew ?_ | refine blk_alloc ?_ _)); refine blk_put (cs := #[.int .i64 t118, .int .i64 t119, .int .i64 t120, .int .i64 t121, .int .i64 t122, .int .i64 t123, .int .i64 t124, .int .i64 0]) ?_ 7 _ (by first | rfl | (simp; done)); (with_reducible repeat (first | refine blk_drewN ?_ _ | refine blk_drew ?_ | refine blk_alloc ?_ _)); refine blk_put (cs := #[.int .i64 t118, .int .i64 t119, .int .i64 t120, .int .i64 t121, .int .i64 t122, .int .i64 t123, .int .i64 0, .int .i64 0]) ?_ 6 _ (by first | rfl | (simp; done)); (with_reducible repeat (first | refine blk_drewN ?_ _ | refine blk_drew ?_ | refine blk_alloc ?_ _)); refine blk_put (cs := #[.int .i64 t118, .int .i64 t119, .int .i64 t120, .int .i64 t121, .int .i64 t122, .int .i64 0, .int .i64 0, .int .i64 0]) ?_ 5 _ (by first | rfl | (simp; done)); (with_reducible repeat (first | refine blk_drewN ?_ _ | refine blk_drew ?_ | refine blk_alloc ?_ _)); refine blk_put (cs := #[.int .i64 t118, .int .i64 t119, .int .i64 t120, .int .i64 t121, .int .i64 0, .int .i64 0, .int .i64 0, .int .i64 0]) ?_ 4 _ (by first | rfl | (simp; done)); (with_reducible repeat (first | refine blk_drewN ?_ _ | refine blk_drew ?_ | refine blk_alloc ?_ _)); refine blk_put (cs := #[.int .i64 t118, .int .i64 t119, .int .i64 t120, .int .i64 0, .int .i64 0, .int .i64 0, .int .i64 0, .int .i64 0]) ?_ 3 _ (by first | rfl | (simp; done)); (with_reducible repeat (first | refine blk_drewN ?_ _ | refine blk_drew ?_ | refine blk_alloc ?_ _)); refine blk_put (cs := #[.int .i64 t118, .int .i64 t119, .int .i64 0, .int .i64 0, .int .i64 0, .int .i64 0, .int .i64 0, .int .i64 0]) ?_ 2 _ (by first | rfl | (simp; done)); (with_reducible repeat (first | refine blk_drewN ?_ _ | refine blk_drew ?_ | refine blk_alloc ?_ _)); refine blk_put (cs := #[.int .i64 t118, .int .i64 0, .int .i64 0, .int .i64 0, .int .i64 0, .int .i64 0, .int .i64 0, .int .i64 0]) ?_ 1 _ (by first | rfl | (simp; done)); (with_reducible repeat (first | refine blk_drewN ?_ _ | refine blk_drew ?_ | refine blk_alloc ?_ _)); refine blk_put (cs := #[.int .i64 0, .int .i64 0, .int .i64 0, .int .i64 0, .int .i64 0, .int .i64 0, .int .i64 0, .int .i64 0]) ?_ 0 _ (by first | rfl | (simp; done)); (with_reducible repeat (first | refine blk_drewN ?_ _ | refine blk_drew ?_ | refine blk_alloc ?_ _)); exact BK126.out))⟩; have n1_ : Aside0 (Below w.heap.size w w41) := ⟨(by rw [hw]; exact (by repeat (first | (with_reducible first | exact HB.out | apply below_alloc | apply pw_below_drewN | apply below_drew1 | refine below_set ?_ GE126.out) | exact HB.out)))⟩; clear hw; clear BK126; clear HB; have BK126 := n0_; have HB := n1_; clear n0_ n1_; have hcz42_0 : w41.cell? ⟨gb126, 0, none⟩ = some (.int .i64 t118) := (blk_cell BK126.out 0).trans rfl; have hcz42_1 : w41.cell? ⟨gb126, 1, none⟩ = some (.int .i64 t119) := (blk_cell BK126.out 1).trans rfl; have hcz42_2 : w41.cell? ⟨gb126, 2, none⟩ = some (.int .i64 t120) := (blk_cell BK126.out 2).trans rfl; have hcz42_3 : w41.cell? ⟨gb126, 3, none⟩ = some (.int .i64 t121) := (blk_cell BK126.out 3).trans rfl; have hcz42_4 : w41.cell? ⟨gb126, 4, none⟩ = some (.int .i64 t122) := (blk_cell BK126.out 4).trans rfl; have hcz42_5 : w41.cell? ⟨gb126, 5, none⟩ = some (.int .i64 t123) := (blk_cell BK126.out 5).trans rfl; have hcz42_6 : w41.cell? ⟨gb126, 6, none⟩ = some (.int .i64 t124) := (blk_cell BK126.out 6).trans rfl; have hcz42_7 : w41.cell? ⟨gb126, 7, none⟩ = some (.int .i64 t125) := (blk_cell BK126.out 7).trans rfl; have hfz42_0 := blk_frozen BK126.out 0; have hfz42_1 := blk_frozen BK126.out 1; have hfz42_2 := blk_frozen BK126.out 2; have hfz42_3 := blk_frozen BK126.out 3; have hfz42_4 := blk_frozen BK126.out 4; have hfz42_5 := blk_frozen BK126.out 5; have hfz42_6 := blk_frozen BK126.out 6; have hfz42_7 := blk_frozen BK126.out 7) | ((with_reducible refine gate_callee (f := 33) rfl ?_); refine goesL_ (some 40) rfl rfl Tryd.func33 (by kernel_rfl) rfl #[.int .i64 t122] rfl (by (try simp only [List.map_toArray, List.map_cons, List.map_nil]); first | done | rfl | (simp only [List.length_drop, List.length_take]; rfl)) ?_; (with_reducible refine (domesdayref05_two.calls t122 t131 _ A37.out).mono ?_); rintro e w43 ⟨rfl, hb⟩; refine ⟨_, rfl, ?_⟩; have n0_ := Aside0.mk (blk_below (g := gb126) (o := .cells #[.int .i64 t118, .int .i64 t119, .int .i64 t120, .int .i64 t121, .int .i64 t122, .int .i64 t123, .int .i64 t124, .int .i64 t125] 23 (0, 0)) (by (with_reducible repeat (first | refine blk_drewN ?_ _ | refine blk_drew ?_ | refine blk_alloc ?_ _)); exact BK126.out) hb); have n1_ := Aside0.mk (below_step (by repeat (first | (with_reducible first | exact HB.out | apply below_alloc | apply pw_below_drewN | apply below_drew1 | refine below_set ?_ GE126.out) | exact HB.out)) hb); clear BK126; clear HB; have BK126 := n0_; have HB := n1_; clear n0_ n1_; (try clear hb); (try clear hb2); (try clear hk); (try clear hi)))
      go_ret2
      exact ⟨by first | rfl | (simp [errW_none, errW_some] <;> rfl) | (simp [*, errW_none, errW_some] <;> rfl), by repeat (first | (with_reducible first | exact HB.out | apply below_alloc | apply pw_below_drewN | apply below_drew1 | refine below_set ?_ GE126.out) | exact HB.out)⟩
     ·rw [if_neg c36] at H
      have c36b0 : (a0 == 77) = false := beq_eq_false_iff_ne.mpr c36
      have c36b1 : (a0 != 77) = true := bne_iff_ne.mpr c36
      by_cases c44 : a0 = 83
      ·rw [if_pos c44] at H
       have c44b0 : (a0 == 83) = true := beq_iff_eq.mpr c44
       have c44b1 : (a0 != 83) = false := bne_eq_false_iff_eq.mpr c44
       clear c44
       replace H := Option.bind_eq_some_iff.mp H
       obtain ⟨t132, A450, H⟩ := H
       replace H : (some (t132, true)) = some (r1, r2) := H
       have A45 := Aside0.mk A450
       clear A450
       simp only [Option.some.injEq, Prod.mk.injEq] at H
       obtain ⟨rfl, rfl⟩ := H
       go_enter Tryd.func25, Tryd.ntmps25
       go_wp2_with (first | ((with_reducible refine gate_callee (f := 31) rfl ?_); refine goesL_ (some 14) rfl rfl Tryd.func31 (by kernel_rfl) rfl #[.int .i64 a1, .int .i64 a2] rfl (by (try simp only [List.map_toArray, List.map_cons, List.map_nil]); first | done | rfl | (simp only [List.length_drop, List.length_take]; rfl)) ?_; (with_reducible refine (domesdayref04_Of.calls k a1 a2 t118 t119 t120 t121 t122 t123 t124 t125 _ A4.out).mono ?_); rintro e w46 ⟨rfl, hb⟩; refine ⟨_, rfl, ?_⟩; have n0_ := Aside0.mk (below_step (by repeat (first | (with_reducible first | exact HB.out | apply below_alloc | apply pw_below_drewN | apply below_drew1) | exact HB.out)) hb); clear HB; have HB := n0_; clear n0_; (try clear hb); (try clear hb2); (try clear hk); (try clear hi)) | ((with_reducible refine gate_dst (N := 8) rfl ?_); refine box_event ?hg (N := 8) ?hd (cs := #[.int .i64 0, .int .i64 0, .int .i64 0, .int .i64 0, .int .i64 0, .int .i64 0, .int .i64 0, .int .i64 0]) (t := 23) ?hr ?_; (case hd => rfl); (case hg => rfl); (case hr => first | (go_simp; done) | (go_simp; rfl)); intro gb126 hg w47 hbox hb; have n0_ := Aside0.mk (below_step (by repeat (first | (with_reducible first | exact HB.out | apply below_alloc | apply pw_below_drewN | apply below_drew1) | exact HB.out)) hb); have n1_ := Aside0.mk (hbox); have n2_ := Aside0.mk ((by rw [hg]; exact (below_size (by repeat (first | (with_reducible first | exact HB.out | apply below_alloc | apply pw_below_drewN | apply below_drew1) | exact HB.out))) : w.heap.size ≤ gb126)); have n3_ := Aside0.mk ((by rw [hg]; exact (below_size (by repeat (first | (with_reducible first | exact HB.out | apply below_alloc | apply pw_below_drewN | apply below_drew1) | exact HB.out))) : w.heap.size ≤ gb126)); clear HB; have HB := n0_; have BK126 := n1_; have GW126 := n2_; have GE126 := n3_; clear n0_ n1_ n2_ n3_; clear hb hbox hg; have hcz48_0 : w47.cell? ⟨gb126, 0, none⟩ = some (.int .i64 0) := (blk_cell BK126.out 0).trans rfl; have hcz48_1 : w47.cell? ⟨gb126, 1, none⟩ = some (.int .i64 0) := (blk_cell BK126.out 1).trans rfl; have hcz48_2 : w47.cell? ⟨gb126, 2, none⟩ = some (.int .i64 0) := (blk_cell BK126.out 2).trans rfl; have hcz48_3 : w47.cell? ⟨gb126, 3, none⟩ = some (.int .i64 0) := (blk_cell BK126.out 3).trans rfl; have hcz48_4 : w47.cell? ⟨gb126, 4, none⟩ = some (.int .i64 0) := (blk_cell BK126.out 4).trans rfl; have hcz48_5 : w47.cell? ⟨gb126, 5, none⟩ = some (.int .i64 0) := (blk_cell BK126.out 5).trans rfl; have hcz48_6 : w47.cell? ⟨gb126, 6, none⟩ = some (.int .i64 0) := (blk_cell BK126.out 6).trans rfl; have hcz48_7 : w47.cell? ⟨gb126, 7, none⟩ = some (.int .i64 0) := (blk_cell BK126.out 7).trans rfl; have hfz48_0 := blk_frozen BK126.out 0; have hfz48_1 := blk_frozen BK126.out 1; have hfz48_2 := blk_frozen BK126.out 2; have hfz48_3 := blk_frozen BK126.out 3; have hfz48_4 := blk_frozen BK126.out 4; have hfz48_5 := blk_frozen BK126.out 5; have hfz48_6 := blk_frozen BK126.out 6; have hfz48_7 := blk_frozen BK126.out 7) | ((with_reducible refine gate_store (t := 23) (p := 8) rfl ?_); refine store_event (t := 23) (p := 8) (v := ?vo_w49) (w1 := ((((((((w47.setCell ⟨gb126, 0, none⟩ (.int .i64 t118)).setCell ⟨gb126, 1, none⟩ (.int .i64 t119)).setCell ⟨gb126, 2, none⟩ (.int .i64 t120)).setCell ⟨gb126, 3, none⟩ (.int .i64 t121)).setCell ⟨gb126, 4, none⟩ (.int .i64 t122)).setCell ⟨gb126, 5, none⟩ (.int .i64 t123)).setCell ⟨gb126, 6, none⟩ (.int .i64 t124)).setCell ⟨gb126, 7, none⟩ (.int .i64 t125))) ?hg ?ho ?hn ?hr ?_; (case ho => rfl); (case hg => rfl); (case hn => rfl); (case hr => first | (go_simp; done) | (go_simp; rfl)); intro w49 hw; have n0_ : Aside0 (w49.heap[gb126]? = some (.cells #[.int .i64 t118, .int .i64 t119, .int .i64 t120, .int .i64 t121, .int .i64 t122, .int .i64 t123, .int .i64 t124, .int .i64 t125] 23 (0, 0))) := ⟨(by rw [hw]; exact (by (with_reducible repeat (first | refine blk_drewN ?_ _ | refine blk_drew ?_ | refine blk_alloc ?_ _)); refine blk_put (cs := #[.int .i64 t118, .int .i64 t119, .int .i64 t120, .int .i64 t121, .int .i64 t122, .int .i64 t123, .int .i64 t124, .int .i64 0]) ?_ 7 _ (by first | rfl | (simp; done)); (with_reducible repeat (first | refine blk_drewN ?_ _ | refine blk_drew ?_ | refine blk_alloc ?_ _)); refine blk_put (cs := #[.int .i64 t118, .int .i64 t119, .int .i64 t120, .int .i64 t121, .int .i64 t122, .int .i64 t123, .int .i64 0, .int .i64 0]) ?_ 6 _ (by first | rfl | (simp; done)); (with_reducible repeat (first | refine blk_drewN ?_ _ | refine blk_drew ?_ | refine blk_alloc ?_ _)); refine blk_put (cs := #[.int .i64 t118, .int .i64 t119, .int .i64 t120, .int .i64 t121, .int .i64 t122, .int .i64 0, .int .i64 0, .int .i64 0]) ?_ 5 _ (by first | rfl | (simp; done)); (with_reducible repeat (first | refine blk_drewN ?_ _ | refine blk_drew ?_ | refine blk_alloc ?_ _)); refine blk_put (cs := #[.int .i64 t118, .int .i64 t119, .int .i64 t120, .int .i64 t121, .int .i64 0, .int .i64 0, .int .i64 0, .int .i64 0]) ?_ 4 _ (by first | rfl | (simp; done)); (with_reducible repeat (first | refine blk_drewN ?_ _ | refine blk_drew ?_ | refine blk_alloc ?_ _)); refine blk_put (cs := #[.int .i64 t118, .int .i64 t119, .int .i64 t120, .int .i64 0, .int .i64 0, .int .i64 0, .int .i64 0, .int .i64 0]) ?_ 3 _ (by first | rfl | (simp; done)); (with_reducible repeat (first | refine blk_drewN ?_ _ | refine blk_drew ?_ | refine blk_alloc ?_ _)); refine blk_put (cs := #[.int .i64 t118, .int .i64 t119, .int .i64 0, .int .i64 0, .int .i64 0, .int .i64 0, .int .i64 0, .int .i64 0]) ?_ 2 _ (by first | rfl | (simp; done)); (with_reducible repeat (first | refine blk_drewN ?_ _ | refine blk_drew ?_ | refine blk_alloc ?_ _)); refine blk_put (cs := #[.int .i64 t118, .int .i64 0, .int .i64 0, .int .i64 0, .int .i64 0, .int .i64 0, .int .i64 0, .int .i64 0]) ?_ 1 _ (by first | rfl | (simp; done)); (with_reducible repeat (first | refine blk_drewN ?_ _ | refine blk_drew ?_ | refine blk_alloc ?_ _)); refine blk_put (cs := #[.int .i64 0, .int .i64 0, .int .i64 0, .int .i64 0, .int .i64 0, .int .i64 0, .int .i64 0, .int .i64 0]) ?_ 0 _ (by first | rfl | (simp; done)); (with_reducible repeat (first | refine blk_drewN ?_ _ | refine blk_drew ?_ | refine blk_alloc ?_ _)); exact BK126.out))⟩; have n1_ : Aside0 (Below w.heap.size w w49) := ⟨(by rw [hw]; exact (by repeat (first | (with_reducible first | exact HB.out | apply below_alloc | apply pw_below_drewN | apply below_drew1 | refine below_set ?_ GE126.out) | exact HB.out)))⟩; clear hw; clear BK126; clear HB; have BK126 := n0_; have HB := n1_; clear n0_ n1_; have hcz50_0 : w49.cell? ⟨gb126, 0, none⟩ = some (.int .i64 t118) := (blk_cell BK126.out 0).trans rfl; have hcz50_1 : w49.cell? ⟨gb126, 1, none⟩ = some (.int .i64 t119) := (blk_cell BK126.out 1).trans rfl; have hcz50_2 : w49.cell? ⟨gb126, 2, none⟩ = some (.int .i64 t120) := (blk_cell BK126.out 2).trans rfl; have hcz50_3 : w49.cell? ⟨gb126, 3, none⟩ = some (.int .i64 t121) := (blk_cell BK126.out 3).trans rfl; have hcz50_4 : w49.cell? ⟨gb126, 4, none⟩ = some (.int .i64 t122) := (blk_cell BK126.out 4).trans rfl; have hcz50_5 : w49.cell? ⟨gb126, 5, none⟩ = some (.int .i64 t123) := (blk_cell BK126.out 5).trans rfl; have hcz50_6 : w49.cell? ⟨gb126, 6, none⟩ = some (.int .i64 t124) := (blk_cell BK126.out 6).trans rfl; have hcz50_7 : w49.cell? ⟨gb126, 7, none⟩ = some (.int .i64 t125) := (blk_cell BK126.out 7).trans rfl; have hfz50_0 := blk_frozen BK126.out 0; have hfz50_1 := blk_frozen BK126.out 1; have hfz50_2 := blk_frozen BK126.out 2; have hfz50_3 := blk_frozen BK126.out 3; have hfz50_4 := blk_frozen BK126.out 4; have hfz50_5 := blk_frozen BK126.out 5; have hfz50_6 := blk_frozen BK126.out 6; have hfz50_7 := blk_frozen BK126.out 7) | ((with_reducible refine gate_callee (f := 33) rfl ?_); refine goesL_ (some 45) rfl rfl Tryd.func33 (by kernel_rfl) rfl #[.int .i64 t123] rfl (by (try simp only [List.map_toArray, List.map_cons, List.map_nil]); first | done | rfl | (simp only [List.length_drop, List.length_take]; rfl)) ?_; (with_reducible refine (domesdayref05_two.calls t123 t132 _ A45.out).mono ?_); rintro e w51 ⟨rfl, hb⟩; refine ⟨_, rfl, ?_⟩; have n0_ := Aside0.mk (blk_below (g := gb126) (o := .cells #[.int .i64 t118, .int .i64 t119, .int .i64 t120, .int .i64 t121, .int .i64 t122, .int .i64 t123, .int .i64 t124, .int .i64 t125] 23 (0, 0)) (by (with_reducible repeat (first | refine blk_drewN ?_ _ | refine blk_drew ?_ | refine blk_alloc ?_ _)); exact BK126.out) hb); have n1_ := Aside0.mk (below_step (by repeat (first | (with_reducible first | exact HB.out | apply below_alloc | apply pw_below_drewN | apply below_drew1 | refine below_set ?_ GE126.out) | exact HB.out)) hb); clear BK126; clear HB; have BK126 := n0_; have HB := n1_; clear n0_ n1_; (try clear hb); (try clear hb2); (try clear hk); (try clear hi)))
       go_ret2
       exact ⟨by first | rfl | (simp [errW_none, errW_some] <;> rfl) | (simp [*, errW_none, errW_some] <;> rfl), by repeat (first | (with_reducible first | exact HB.out | apply below_alloc | apply pw_below_drewN | apply below_drew1 | refine below_set ?_ GE126.out) | exact HB.out)⟩
      ·rw [if_neg c44] at H
       have c44b0 : (a0 == 83) = false := beq_eq_false_iff_ne.mpr c44
       have c44b1 : (a0 != 83) = true := bne_iff_ne.mpr c44
       by_cases c52 : a0 = 106
       ·rw [if_pos c52] at H
        have c52b0 : (a0 == 106) = true := beq_iff_eq.mpr c52
        have c52b1 : (a0 != 106) = false := bne_eq_false_iff_eq.mpr c52
        clear c52
        obtain ⟨y133, hy133⟩ : ∃ y_ : List Int, y_ = (([(wrap64 (48 + (wrap64 (Int.tdiv t125 100)))) % 256] : List Int)) := ⟨_, rfl⟩
        replace H : ((domesdayref05_two.f (Int.tmod t125 100)).bind fun t136 => (if (strOfNums y133).size + t136.size ≤ 9223372036854775807 then (some ((strOfNums y133) ++ t136, true)) else (none))) = some (r1, r2) := by first | (rw [hy133]; with_reducible exact H) | (have H2_ := (Option.bind_some _ _).symm.trans H; rw [hy133]; with_reducible exact H2_) | (have H2_ := (Option.bind_some _ _).symm.trans H; with_reducible exact H2_) | with_reducible exact H | (rw [hy133]; exact H) | exact H
        have Ny133 := Aside0.mk hy133
        clear hy133
        replace H := Option.bind_eq_some_iff.mp H
        obtain ⟨t136, A530, H⟩ := H
        replace H : (if (strOfNums y133).size + t136.size ≤ 9223372036854775807 then (some ((strOfNums y133) ++ t136, true)) else (none)) = some (r1, r2) := H
        have A53 := Aside0.mk A530
        clear A530
        by_cases c54 : (strOfNums y133).size + t136.size ≤ 9223372036854775807
        ·rw [if_pos c54] at H
         have c54b0 := eq_true c54
         have c54b1 : decide ((strOfNums y133).size + t136.size ≤ 9223372036854775807) = true := decide_eq_true c54
         try have c54b2 : (9223372036854775807 < (strOfNums y133).size + t136.size) = False := eq_false (Nat.not_lt.2 c54)
         simp only [Option.some.injEq, Prod.mk.injEq] at H
         obtain ⟨rfl, rfl⟩ := H
         go_enter Tryd.func25, Tryd.ntmps25
         try go_wp2_with (first | ((with_reducible refine gate_callee (f := 31) rfl ?_); refine goesL_ (some 14) rfl rfl Tryd.func31 (by kernel_rfl) rfl #[.int .i64 a1, .int .i64 a2] rfl (by (try simp only [List.map_toArray, List.map_cons, List.map_nil]); first | done | rfl | (simp only [List.length_drop, List.length_take]; rfl)) ?_; (with_reducible refine (domesdayref04_Of.calls k a1 a2 t118 t119 t120 t121 t122 t123 t124 t125 _ A4.out).mono ?_); rintro e w55 ⟨rfl, hb⟩; refine ⟨_, rfl, ?_⟩; have n0_ := Aside0.mk (below_step (by repeat (first | (with_reducible first | exact HB.out | apply below_alloc | apply pw_below_drewN | apply below_drew1) | exact HB.out)) hb); clear HB; have HB := n0_; clear n0_; (try clear hb); (try clear hb2); (try clear hk); (try clear hi)) | ((with_reducible refine gate_dst (N := 8) rfl ?_); refine box_event ?hg (N := 8) ?hd (cs := #[.int .i64 0, .int .i64 0, .int .i64 0, .int .i64 0, .int .i64 0, .int .i64 0, .int .i64 0, .int .i64 0]) (t := 23) ?hr ?_; (case hd => rfl); (case hg => rfl); (case hr => first | (go_simp; done) | (go_simp; rfl)); intro gb126 hg w56 hbox hb; have n0_ := Aside0.mk (below_step (by repeat (first | (with_reducible first | exact HB.out | apply below_alloc | apply pw_below_drewN | apply below_drew1) | exact HB.out)) hb); have n1_ := Aside0.mk (hbox); have n2_ := Aside0.mk ((by rw [hg]; exact (below_size (by repeat (first | (with_reducible first | exact HB.out | apply below_alloc | apply pw_below_drewN | apply below_drew1) | exact HB.out))) : w.heap.size ≤ gb126)); have n3_ := Aside0.mk ((by rw [hg]; exact (below_size (by repeat (first | (with_reducible first | exact HB.out | apply below_alloc | apply pw_below_drewN | apply below_drew1) | exact HB.out))) : w.heap.size ≤ gb126)); clear HB; have HB := n0_; have BK126 := n1_; have GW126 := n2_; have GE126 := n3_; clear n0_ n1_ n2_ n3_; clear hb hbox hg; have hcz57_0 : w56.cell? ⟨gb126, 0, none⟩ = some (.int .i64 0) := (blk_cell BK126.out 0).trans rfl; have hcz57_1 : w56.cell? ⟨gb126, 1, none⟩ = some (.int .i64 0) := (blk_cell BK126.out 1).trans rfl; have hcz57_2 : w56.cell? ⟨gb126, 2, none⟩ = some (.int .i64 0) := (blk_cell BK126.out 2).trans rfl; have hcz57_3 : w56.cell? ⟨gb126, 3, none⟩ = some (.int .i64 0) := (blk_cell BK126.out 3).trans rfl; have hcz57_4 : w56.cell? ⟨gb126, 4, none⟩ = some (.int .i64 0) := (blk_cell BK126.out 4).trans rfl; have hcz57_5 : w56.cell? ⟨gb126, 5, none⟩ = some (.int .i64 0) := (blk_cell BK126.out 5).trans rfl; have hcz57_6 : w56.cell? ⟨gb126, 6, none⟩ = some (.int .i64 0) := (blk_cell BK126.out 6).trans rfl; have hcz57_7 : w56.cell? ⟨gb126, 7, none⟩ = some (.int .i64 0) := (blk_cell BK126.out 7).trans rfl; have hfz57_0 := blk_frozen BK126.out 0; have hfz57_1 := blk_frozen BK126.out 1; have hfz57_2 := blk_frozen BK126.out 2; have hfz57_3 := blk_frozen BK126.out 3; have hfz57_4 := blk_frozen BK126.out 4; have hfz57_5 := blk_frozen BK126.out 5; have hfz57_6 := blk_frozen BK126.out 6; have hfz57_7 := blk_frozen BK126.out 7))
         have n0_ : Aside0 (((((((((w56.setCell ⟨gb126, 0, none⟩ (.int .i64 t118)).setCell ⟨gb126, 1, none⟩ (.int .i64 t119)).setCell ⟨gb126, 2, none⟩ (.int .i64 t120)).setCell ⟨gb126, 3, none⟩ (.int .i64 t121)).setCell ⟨gb126, 4, none⟩ (.int .i64 t122)).setCell ⟨gb126, 5, none⟩ (.int .i64 t123)).setCell ⟨gb126, 6, none⟩ (.int .i64 t124)).setCell ⟨gb126, 7, none⟩ (.int .i64 t125)).heap[gb126]? = some (.cells #[.int .i64 t118, .int .i64 t119, .int .i64 t120, .int .i64 t121, .int .i64 t122, .int .i64 t123, .int .i64 t124, .int .i64 t125] 23 (0, 0))) := ⟨by (with_reducible repeat (first | refine blk_drewN ?_ _ | refine blk_drew ?_ | refine blk_alloc ?_ _)); refine blk_put (cs := #[.int .i64 t118, .int .i64 t119, .int .i64 t120, .int .i64 t121, .int .i64 t122, .int .i64 t123, .int .i64 t124, .int .i64 0]) ?_ 7 _ (by first | rfl | (simp; done)); (with_reducible repeat (first | refine blk_drewN ?_ _ | refine blk_drew ?_ | refine blk_alloc ?_ _)); refine blk_put (cs := #[.int .i64 t118, .int .i64 t119, .int .i64 t120, .int .i64 t121, .int .i64 t122, .int .i64 t123, .int .i64 0, .int .i64 0]) ?_ 6 _ (by first | rfl | (simp; done)); (with_reducible repeat (first | refine blk_drewN ?_ _ | refine blk_drew ?_ | refine blk_alloc ?_ _)); refine blk_put (cs := #[.int .i64 t118, .int .i64 t119, .int .i64 t120, .int .i64 t121, .int .i64 t122, .int .i64 0, .int .i64 0, .int .i64 0]) ?_ 5 _ (by first | rfl | (simp; done)); (with_reducible repeat (first | refine blk_drewN ?_ _ | refine blk_drew ?_ | refine blk_alloc ?_ _)); refine blk_put (cs := #[.int .i64 t118, .int .i64 t119, .int .i64 t120, .int .i64 t121, .int .i64 0, .int .i64 0, .int .i64 0, .int .i64 0]) ?_ 4 _ (by first | rfl | (simp; done)); (with_reducible repeat (first | refine blk_drewN ?_ _ | refine blk_drew ?_ | refine blk_alloc ?_ _)); refine blk_put (cs := #[.int .i64 t118, .int .i64 t119, .int .i64 t120, .int .i64 0, .int .i64 0, .int .i64 0, .int .i64 0, .int .i64 0]) ?_ 3 _ (by first | rfl | (simp; done)); (with_reducible repeat (first | refine blk_drewN ?_ _ | refine blk_drew ?_ | refine blk_alloc ?_ _)); refine blk_put (cs := #[.int .i64 t118, .int .i64 t119, .int .i64 0, .int .i64 0, .int .i64 0, .int .i64 0, .int .i64 0, .int .i64 0]) ?_ 2 _ (by first | rfl | (simp; done)); (with_reducible repeat (first | refine blk_drewN ?_ _ | refine blk_drew ?_ | refine blk_alloc ?_ _)); refine blk_put (cs := #[.int .i64 t118, .int .i64 0, .int .i64 0, .int .i64 0, .int .i64 0, .int .i64 0, .int .i64 0, .int .i64 0]) ?_ 1 _ (by first | rfl | (simp; done)); (with_reducible repeat (first | refine blk_drewN ?_ _ | refine blk_drew ?_ | refine blk_alloc ?_ _)); refine blk_put (cs := #[.int .i64 0, .int .i64 0, .int .i64 0, .int .i64 0, .int .i64 0, .int .i64 0, .int .i64 0, .int .i64 0]) ?_ 0 _ (by first | rfl | (simp; done)); (with_reducible repeat (first | refine blk_drewN ?_ _ | refine blk_drew ?_ | refine blk_alloc ?_ _)); exact BK126.out⟩
         have n1_ : Aside0 (Below w.heap.size w ((((((((w56.setCell ⟨gb126, 0, none⟩ (.int .i64 t118)).setCell ⟨gb126, 1, none⟩ (.int .i64 t119)).setCell ⟨gb126, 2, none⟩ (.int .i64 t120)).setCell ⟨gb126, 3, none⟩ (.int .i64 t121)).setCell ⟨gb126, 4, none⟩ (.int .i64 t122)).setCell ⟨gb126, 5, none⟩ (.int .i64 t123)).setCell ⟨gb126, 6, none⟩ (.int .i64 t124)).setCell ⟨gb126, 7, none⟩ (.int .i64 t125))) := ⟨by repeat (first | (with_reducible first | exact HB.out | apply below_alloc | apply pw_below_drewN | apply below_drew1 | refine below_set ?_ GE126.out) | exact HB.out)⟩
         (try clear BK126)
         (try clear HB)
         generalize ((((((((w56.setCell ⟨gb126, 0, none⟩ (.int .i64 t118)).setCell ⟨gb126, 1, none⟩ (.int .i64 t119)).setCell ⟨gb126, 2, none⟩ (.int .i64 t120)).setCell ⟨gb126, 3, none⟩ (.int .i64 t121)).setCell ⟨gb126, 4, none⟩ (.int .i64 t122)).setCell ⟨gb126, 5, none⟩ (.int .i64 t123)).setCell ⟨gb126, 6, none⟩ (.int .i64 t124)).setCell ⟨gb126, 7, none⟩ (.int .i64 t125)) = w58 at n0_ n1_ ⊢
         have BK126 := n0_
         have HB := n1_
         clear n0_ n1_
         have n0_ := Aside0.mk (blk_drew BK126.out)
         have n1_ := Aside0.mk (below_drew1 HB.out)
         clear BK126
         clear HB
         have BK126 := n0_
         have HB := n1_
         clear n0_ n1_
         refine start_ (n := 14) (S := fun w' => w'.cell? ⟨gb126, 0, none⟩ = some (.int .i64 t118) ∧ w'.cell? ⟨gb126, 1, none⟩ = some (.int .i64 t119) ∧ w'.cell? ⟨gb126, 2, none⟩ = some (.int .i64 t120) ∧ w'.cell? ⟨gb126, 3, none⟩ = some (.int .i64 t121) ∧ w'.cell? ⟨gb126, 4, none⟩ = some (.int .i64 t122) ∧ w'.cell? ⟨gb126, 5, none⟩ = some (.int .i64 t123) ∧ w'.cell? ⟨gb126, 6, none⟩ = some (.int .i64 t124) ∧ w'.cell? ⟨gb126, 7, none⟩ = some (.int .i64 t125)) (ds := []) #[false, false, false, false, false, false, false, false, false, false, false, false, false, false] (by kernel_rfl) rfl rfl ⟨(blk_cell BK126.out 0).trans rfl, (blk_cell BK126.out 1).trans rfl, (blk_cell BK126.out 2).trans rfl, (blk_cell BK126.out 3).trans rfl, (blk_cell BK126.out 4).trans rfl, (blk_cell BK126.out 5).trans rfl, (blk_cell BK126.out 6).trans rfl, (blk_cell BK126.out 7).trans rfl⟩ (fun hHeld => ?_); refine with_tabW domesdayref05_One.tab16 domesdayref05_One.bits16 (fun HT_ HW_ => ?_)
         generalize w58.drew = w59 at BK126 HB hHeld ⊢
         refine pure_ (i := 0) (N := some 48) (v := ?_) (a' := ?_) #[true, false, false, false, false, false, false, false, false, false, false, false, false, false] rfl rfl (any_of HT_.out (by kernel_rfl)) (fun _ _ _ h => h) (Or.inl ⟨by rfl, ?_⟩) ?_ ?_
         rotate_left
         ·intro w'
          go_simp
          with_reducible rfl
         rotate_left
         ·simp only [Act.put, List.setIfInBounds_toArray, List.set_cons_zero, List.set_cons_succ, i64_w, i32_w]
          rfl
         refine pure_ (i := 7) (N := some 55) (v := ?_) (a' := ?_) #[true, false, false, false, false, false, false, true, false, false, false, false, false, false] rfl rfl (any_of HT_.out (by kernel_rfl)) (fun _ _ _ h => h) (Or.inl ⟨by rfl, ?_⟩) ?_ ?_
         rotate_left
         ·intro w'
          go_simp
          with_reducible rfl
         rotate_left
         ·simp only [Act.put, List.setIfInBounds_toArray, List.set_cons_zero, List.set_cons_succ, i64_w, i32_w]
          rfl
         refine take_ (i := 1) (N := some 49) (v := ?_) (a' := ?_) #[true, true, false, false, false, false, false, true, false, false, false, false, false, false] rfl rfl (take_ofW HT_.out HW_.out (by kernel_rfl)) (fun _ _ _ h => h) (Or.inl ⟨by rfl, ?_⟩) hHeld ?_ ?_
         rotate_left
         ·rintro w' ⟨s0, s1, s2, s3, s4, s5, s6, s7⟩
          go_simp
          with_reducible rfl
         rotate_left
         ·simp only [Act.put, List.setIfInBounds_toArray, List.set_cons_zero, List.set_cons_succ, i64_w, i32_w]
          rfl
         refine pure_ (i := 2) (N := some 50) (v := ?_) (a' := ?_) #[true, true, true, false, false, false, false, true, false, false, false, false, false, false] rfl rfl (any_of HT_.out (by kernel_rfl)) (fun _ _ _ h => h) (Or.inl ⟨by rfl, ?_⟩) ?_ ?_
         rotate_left
         ·intro w'
          go_simp
          with_reducible rfl
         rotate_left
         ·simp only [Act.put, List.setIfInBounds_toArray, List.set_cons_zero, List.set_cons_succ, i64_w, i32_w]
          rfl
         refine pure_ (i := 3) (N := some 51) (v := ?_) (a' := ?_) #[true, true, true, true, false, false, false, true, false, false, false, false, false, false] rfl rfl (any_of HT_.out (by kernel_rfl)) (fun _ _ _ h => h) (Or.inl ⟨by rfl, ?_⟩) ?_ ?_
         rotate_left
         ·intro w'
          go_simp
          with_reducible rfl
         rotate_left
         ·simp only [Act.put, List.setIfInBounds_toArray, List.set_cons_zero, List.set_cons_succ, i64_w, i32_w]
          rfl
         refine pure_ (i := 4) (N := some 52) (v := ?_) (a' := ?_) #[true, true, true, true, true, false, false, true, false, false, false, false, false, false] rfl rfl (any_of HT_.out (by kernel_rfl)) (fun _ _ _ h => h) (Or.inl ⟨by rfl, ?_⟩) ?_ ?_
         rotate_left
         ·intro w'
          go_simp
          with_reducible rfl
         rotate_left
         ·simp only [Act.put, List.setIfInBounds_toArray, List.set_cons_zero, List.set_cons_succ, i64_w, i32_w]
          rfl
         refine take_ (i := 8) (N := some 56) (v := ?_) (a' := ?_) #[true, true, true, true, true, false, false, true, true, false, false, false, false, false] rfl rfl (take_ofW HT_.out HW_.out (by kernel_rfl)) (fun _ _ _ h => h) (Or.inl ⟨by rfl, ?_⟩) hHeld ?_ ?_
         rotate_left
         ·rintro w' ⟨s0, s1, s2, s3, s4, s5, s6, s7⟩
          go_simp
          with_reducible rfl
         rotate_left
         ·simp only [Act.put, List.setIfInBounds_toArray, List.set_cons_zero, List.set_cons_succ, i64_w, i32_w]
          rfl
         refine pure_ (i := 9) (N := some 57) (v := ?_) (a' := ?_) #[true, true, true, true, true, false, false, true, true, true, false, false, false, false] rfl rfl (any_of HT_.out (by kernel_rfl)) (fun _ _ _ h => h) (Or.inl ⟨by rfl, ?_⟩) ?_ ?_
         rotate_left
         ·intro w'
          go_simp
          with_reducible rfl
         rotate_left
         ·simp only [Act.put, List.setIfInBounds_toArray, List.set_cons_zero, List.set_cons_succ, i64_w, i32_w]
          rfl
         refine join_ (σ := Value) 3 #[true, true, true, true, true, true, true, true, true, true, true, false, false, false] (fun s_ => [(53, s_), (54, .string (strOfNums y133)), (58, .string t136)]) (fun s_ w' => (w'.cell? ⟨gb126, 0, none⟩ = some (.int .i64 t118) ∧ w'.cell? ⟨gb126, 1, none⟩ = some (.int .i64 t119) ∧ w'.cell? ⟨gb126, 2, none⟩ = some (.int .i64 t120) ∧ w'.cell? ⟨gb126, 3, none⟩ = some (.int .i64 t121) ∧ w'.cell? ⟨gb126, 4, none⟩ = some (.int .i64 t122) ∧ w'.cell? ⟨gb126, 5, none⟩ = some (.int .i64 t123) ∧ w'.cell? ⟨gb126, 6, none⟩ = some (.int .i64 t124) ∧ w'.cell? ⟨gb126, 7, none⟩ = some (.int .i64 t125)) ∧ (Kd.R (Kd.int .u8) 5 w' w.heap.size (fun _ => True) s_ y133) ∧ (w'.heap[gb126]? = some (.cells #[.int .i64 t118, .int .i64 t119, .int .i64 t120, .int .i64 t121, .int .i64 t122, .int .i64 t123, .int .i64 t124, .int .i64 t125] 23 (0, 0))) ∧ (Below w.heap.size w w')) ?_ ?_
         rotate_left
         ·intro hCont
          refine two_ (i := 5) (j := 10) (Ni := some 53) (Nj := some 58) #[true, true, true, true, true, true, false, true, true, true, false, false, false, false] #[true, true, true, true, true, false, false, true, true, true, true, false, false, false] rfl rfl rfl rfl (two_of HT_.out (by kernel_rfl)) (by decide) (by decide) (fun K hK => ?_) (fun K hK => ?_)
          ·skip
           refine Kd.R_lit_step (Kd.int .u8) _ 5 ?hg (N := 53) ?hd (xs := ([(wrap64 (48 + (wrap64 (Int.tdiv t125 100)))) % 256] : List Int)) (inner := [.int .u8 ((wrap64 (48 + (wrap64 (Int.tdiv t125 100)))) % 256)]) (ok := fun _ => True) (okp := fun _ => True) ?hr ?hp (fun _ hk => hk) trivial (Below.refl _ _) (Nat.le_refl _) (by simp) ?_; (case hd => rfl); (case hg => rfl); (case hr => first | (go_simp; done) | (go_simp; rfl)); (case hp => exact (Reps.one (show Kd.M (Kd.int .u8) _ _ _ ((wrap64 (48 + (wrap64 (Int.tdiv t125 100)))) % 256) [.int .u8 ((wrap64 (48 + (wrap64 (Int.tdiv t125 100)))) % 256)] from rfl) (Reps.none _ _)))
           intro v134 w60 ho61 hb hg_ hnew_
           clear hg_ hnew_
           (first | rw [← Ny133.out] at ho61 | (simp only [Int.reduceToNat] at ho61; rw [← Ny133.out] at ho61))
           have n0_ := Aside0.mk (Kd.R_lower ho61 (below_size (by repeat (first | (with_reducible first | exact HB.out | apply below_alloc | apply pw_below_drewN | apply below_drew1 | refine below_set ?_ GE126.out) | exact HB.out))))
           have n1_ := Aside0.mk (blk_below (g := gb126) (o := .cells #[.int .i64 t118, .int .i64 t119, .int .i64 t120, .int .i64 t121, .int .i64 t122, .int .i64 t123, .int .i64 t124, .int .i64 t125] 23 (0, 0)) (by (with_reducible repeat (first | refine blk_drewN ?_ _ | refine blk_drew ?_ | refine blk_alloc ?_ _)); exact BK126.out) hb)
           have n2_ := Aside0.mk (below_step (by repeat (first | (with_reducible first | exact HB.out | apply below_alloc | apply pw_below_drewN | apply below_drew1 | refine below_set ?_ GE126.out) | exact HB.out)) hb)
           clear BK126
           clear HB
           have HO135 := n0_
           have BK126 := n1_
           have HB := n2_
           clear n0_ n1_ n2_
           clear hb ho61
           refine hK.out _ _ ⟨(blk_cell BK126.out 0).trans rfl, (blk_cell BK126.out 1).trans rfl, (blk_cell BK126.out 2).trans rfl, (blk_cell BK126.out 3).trans rfl, (blk_cell BK126.out 4).trans rfl, (blk_cell BK126.out 5).trans rfl, (blk_cell BK126.out 6).trans rfl, (blk_cell BK126.out 7).trans rfl⟩ (fun hHeld => ?_)
           clear hK K
           refine norm_ (a' := ?_) ?_ ?_
           rotate_left
           ·show Act.put _ (some 53) _ = _
            simp only [Act.put, List.setIfInBounds_toArray, List.set_cons_zero, List.set_cons_succ, i64_w, i32_w]
            rfl
           refine two_ (i := 6) (j := 10) (Ni := some 54) (Nj := some 58) #[true, true, true, true, true, true, true, true, true, true, false, false, false, false] #[true, true, true, true, true, true, false, true, true, true, true, false, false, false] rfl rfl rfl rfl (two_of HT_.out (by kernel_rfl)) (by decide) (by decide) (fun K hK => ?_) (fun K hK => ?_)
           ·skip
            have hcv62 := own_string (P := Tryd.prog) Tryd.underlying43 Tryd.underlying5 Tryd.underlying9 (Kd.own_of_R HO135.out)
            refine value_ (w1 := ?_) (v := ?_) (by rfl) rfl ?_ ?_
            rotate_left 2
            ·go_simp
             constructor
             ·rfl
             ·rfl
            clear hcv62
            refine hK.out _ _ ⟨(blk_cell BK126.out 0).trans rfl, (blk_cell BK126.out 1).trans rfl, (blk_cell BK126.out 2).trans rfl, (blk_cell BK126.out 3).trans rfl, (blk_cell BK126.out 4).trans rfl, (blk_cell BK126.out 5).trans rfl, (blk_cell BK126.out 6).trans rfl, (blk_cell BK126.out 7).trans rfl⟩ (fun hHeld => ?_)
            clear hK K
            refine norm_ (a' := ?_) ?_ ?_
            rotate_left
            ·show Act.put _ (some 54) _ = _
             simp only [Act.put, List.setIfInBounds_toArray, List.set_cons_zero, List.set_cons_succ, i64_w, i32_w]
             rfl
            refine one_ (i := 10) (N := some 58) #[true, true, true, true, true, true, true, true, true, true, true, false, false, false] rfl rfl (one_of HT_.out (by kernel_rfl)) (by decide) (fun K hK => ?_)
            refine goes_ Tryd.func33 (by kernel_rfl) rfl #[.int .i64 (Int.tmod t125 100)] (by rfl) rfl rfl (by (try simp only [List.map_toArray, List.map_cons, List.map_nil]); first | done | rfl | (simp only [List.length_drop, List.length_take]; rfl)) ?_
            with_reducible refine (domesdayref05_two.calls (Int.tmod t125 100) t136 _ A53.out).mono ?_
            rintro e w63 ⟨rfl, hb⟩
            refine ⟨_, rfl, ?_⟩
            have n0_ := Aside0.mk (Kd.R_below (by (with_reducible repeat (first | apply Kd.R_alloc | apply Kd.R_drewN | apply Kd.R_drew)); exact HO135.out) hb)
            have n1_ := Aside0.mk (blk_below (g := gb126) (o := .cells #[.int .i64 t118, .int .i64 t119, .int .i64 t120, .int .i64 t121, .int .i64 t122, .int .i64 t123, .int .i64 t124, .int .i64 t125] 23 (0, 0)) (by (with_reducible repeat (first | refine blk_drewN ?_ _ | refine blk_drew ?_ | refine blk_alloc ?_ _)); exact BK126.out) hb)
            have n2_ := Aside0.mk (below_step (by repeat (first | (with_reducible first | exact HB.out | apply below_alloc | apply pw_below_drewN | apply below_drew1 | refine below_set ?_ GE126.out) | exact HB.out)) hb)
            clear HO135
            clear BK126
            clear HB
            have HO135 := n0_
            have BK126 := n1_
            have HB := n2_
            clear n0_ n1_ n2_
            (try clear hb)
            (try clear hb2)
            (try clear hk)
            (try clear hi)
            refine hK.out _ _ ⟨(blk_cell BK126.out 0).trans rfl, (blk_cell BK126.out 1).trans rfl, (blk_cell BK126.out 2).trans rfl, (blk_cell BK126.out 3).trans rfl, (blk_cell BK126.out 4).trans rfl, (blk_cell BK126.out 5).trans rfl, (blk_cell BK126.out 6).trans rfl, (blk_cell BK126.out 7).trans rfl⟩ (fun hHeld => ?_)
            clear hK K
            refine norm_ (a' := ?_) ?_ ?_
            rotate_left
            ·show Act.put _ (some 58) _ = _
             simp only [Act.put, List.setIfInBounds_toArray, List.set_cons_zero, List.set_cons_succ, i64_w, i32_w]
             rfl
            exact norm_ (by simp only [putAll, Act.put, List.setIfInBounds_toArray, List.set_cons_zero, List.set_cons_succ]) (hCont (v134) _ ⟨hHeld, (by (with_reducible repeat (first | apply Kd.R_alloc | apply Kd.R_drewN | apply Kd.R_drew)); exact HO135.out), (by (with_reducible repeat (first | refine blk_drewN ?_ _ | refine blk_drew ?_ | refine blk_alloc ?_ _)); exact BK126.out), (by repeat (first | (with_reducible first | exact HB.out | apply below_alloc | apply pw_below_drewN | apply below_drew1 | refine below_set ?_ GE126.out) | exact HB.out))⟩)
           ·skip
            refine goes_ Tryd.func33 (by kernel_rfl) rfl #[.int .i64 (Int.tmod t125 100)] (by rfl) rfl rfl (by (try simp only [List.map_toArray, List.map_cons, List.map_nil]); first | done | rfl | (simp only [List.length_drop, List.length_take]; rfl)) ?_
            with_reducible refine (domesdayref05_two.calls (Int.tmod t125 100) t136 _ A53.out).mono ?_
            rintro e w62 ⟨rfl, hb⟩
            refine ⟨_, rfl, ?_⟩
            have n0_ := Aside0.mk (Kd.R_below (by (with_reducible repeat (first | apply Kd.R_alloc | apply Kd.R_drewN | apply Kd.R_drew)); exact HO135.out) hb)
            have n1_ := Aside0.mk (blk_below (g := gb126) (o := .cells #[.int .i64 t118, .int .i64 t119, .int .i64 t120, .int .i64 t121, .int .i64 t122, .int .i64 t123, .int .i64 t124, .int .i64 t125] 23 (0, 0)) (by (with_reducible repeat (first | refine blk_drewN ?_ _ | refine blk_drew ?_ | refine blk_alloc ?_ _)); exact BK126.out) hb)
            have n2_ := Aside0.mk (below_step (by repeat (first | (with_reducible first | exact HB.out | apply below_alloc | apply pw_below_drewN | apply below_drew1 | refine below_set ?_ GE126.out) | exact HB.out)) hb)
            clear HO135
            clear BK126
            clear HB
            have HO135 := n0_
            have BK126 := n1_
            have HB := n2_
            clear n0_ n1_ n2_
            (try clear hb)
            (try clear hb2)
            (try clear hk)
            (try clear hi)
            refine hK.out _ _ ⟨(blk_cell BK126.out 0).trans rfl, (blk_cell BK126.out 1).trans rfl, (blk_cell BK126.out 2).trans rfl, (blk_cell BK126.out 3).trans rfl, (blk_cell BK126.out 4).trans rfl, (blk_cell BK126.out 5).trans rfl, (blk_cell BK126.out 6).trans rfl, (blk_cell BK126.out 7).trans rfl⟩ (fun hHeld => ?_)
            clear hK K
            refine norm_ (a' := ?_) ?_ ?_
            rotate_left
            ·show Act.put _ (some 58) _ = _
             simp only [Act.put, List.setIfInBounds_toArray, List.set_cons_zero, List.set_cons_succ, i64_w, i32_w]
             rfl
            refine one_ (i := 6) (N := some 54) #[true, true, true, true, true, true, true, true, true, true, true, false, false, false] rfl rfl (one_of HT_.out (by kernel_rfl)) (by decide) (fun K hK => ?_)
            have hcv63 := own_string (P := Tryd.prog) Tryd.underlying43 Tryd.underlying5 Tryd.underlying9 (Kd.own_of_R HO135.out)
            refine value_ (w1 := ?_) (v := ?_) (by rfl) rfl ?_ ?_
            rotate_left 2
            ·go_simp
             constructor
             ·rfl
             ·rfl
            clear hcv63
            refine hK.out _ _ ⟨(blk_cell BK126.out 0).trans rfl, (blk_cell BK126.out 1).trans rfl, (blk_cell BK126.out 2).trans rfl, (blk_cell BK126.out 3).trans rfl, (blk_cell BK126.out 4).trans rfl, (blk_cell BK126.out 5).trans rfl, (blk_cell BK126.out 6).trans rfl, (blk_cell BK126.out 7).trans rfl⟩ (fun hHeld => ?_)
            clear hK K
            refine norm_ (a' := ?_) ?_ ?_
            rotate_left
            ·show Act.put _ (some 54) _ = _
             simp only [Act.put, List.setIfInBounds_toArray, List.set_cons_zero, List.set_cons_succ, i64_w, i32_w]
             rfl
            exact norm_ (by simp only [putAll, Act.put, List.setIfInBounds_toArray, List.set_cons_zero, List.set_cons_succ]) (hCont (v134) _ ⟨hHeld, (by (with_reducible repeat (first | apply Kd.R_alloc | apply Kd.R_drewN | apply Kd.R_drew)); exact HO135.out), (by (with_reducible repeat (first | refine blk_drewN ?_ _ | refine blk_drew ?_ | refine blk_alloc ?_ _)); exact BK126.out), (by repeat (first | (with_reducible first | exact HB.out | apply below_alloc | apply pw_below_drewN | apply below_drew1 | refine below_set ?_ GE126.out) | exact HB.out))⟩)
          ·skip
           refine goes_ Tryd.func33 (by kernel_rfl) rfl #[.int .i64 (Int.tmod t125 100)] (by rfl) rfl rfl (by (try simp only [List.map_toArray, List.map_cons, List.map_nil]); first | done | rfl | (simp only [List.length_drop, List.length_take]; rfl)) ?_
           with_reducible refine (domesdayref05_two.calls (Int.tmod t125 100) t136 _ A53.out).mono ?_
           rintro e w60 ⟨rfl, hb⟩
           refine ⟨_, rfl, ?_⟩
           have n0_ := Aside0.mk (blk_below (g := gb126) (o := .cells #[.int .i64 t118, .int .i64 t119, .int .i64 t120, .int .i64 t121, .int .i64 t122, .int .i64 t123, .int .i64 t124, .int .i64 t125] 23 (0, 0)) (by (with_reducible repeat (first | refine blk_drewN ?_ _ | refine blk_drew ?_ | refine blk_alloc ?_ _)); exact BK126.out) hb)
           have n1_ := Aside0.mk (below_step (by repeat (first | (with_reducible first | exact HB.out | apply below_alloc | apply pw_below_drewN | apply below_drew1 | refine below_set ?_ GE126.out) | exact HB.out)) hb)
           clear BK126
           clear HB
           have BK126 := n0_
           have HB := n1_
           clear n0_ n1_
           (try clear hb)
           (try clear hb2)
           (try clear hk)
           (try clear hi)
           refine hK.out _ _ ⟨(blk_cell BK126.out 0).trans rfl, (blk_cell BK126.out 1).trans rfl, (blk_cell BK126.out 2).trans rfl, (blk_cell BK126.out 3).trans rfl, (blk_cell BK126.out 4).trans rfl, (blk_cell BK126.out 5).trans rfl, (blk_cell BK126.out 6).trans rfl, (blk_cell BK126.out 7).trans rfl⟩ (fun hHeld => ?_)
           clear hK K
           refine norm_ (a' := ?_) ?_ ?_
           rotate_left
           ·show Act.put _ (some 58) _ = _
            simp only [Act.put, List.setIfInBounds_toArray, List.set_cons_zero, List.set_cons_succ, i64_w, i32_w]
            rfl
           refine one_ (i := 5) (N := some 53) #[true, true, true, true, true, true, false, true, true, true, true, false, false, false] rfl rfl (one_of HT_.out (by kernel_rfl)) (by decide) (fun K hK => ?_)
           refine Kd.R_lit_step (Kd.int .u8) _ 5 ?hg (N := 53) ?hd (xs := ([(wrap64 (48 + (wrap64 (Int.tdiv t125 100)))) % 256] : List Int)) (inner := [.int .u8 ((wrap64 (48 + (wrap64 (Int.tdiv t125 100)))) % 256)]) (ok := fun _ => True) (okp := fun _ => True) ?hr ?hp (fun _ hk => hk) trivial (Below.refl _ _) (Nat.le_refl _) (by simp) ?_; (case hd => rfl); (case hg => rfl); (case hr => first | (go_simp; done) | (go_simp; rfl)); (case hp => exact (Reps.one (show Kd.M (Kd.int .u8) _ _ _ ((wrap64 (48 + (wrap64 (Int.tdiv t125 100)))) % 256) [.int .u8 ((wrap64 (48 + (wrap64 (Int.tdiv t125 100)))) % 256)] from rfl) (Reps.none _ _)))
           intro v134 w61 ho62 hb hg_ hnew_
           clear hg_ hnew_
           (first | rw [← Ny133.out] at ho62 | (simp only [Int.reduceToNat] at ho62; rw [← Ny133.out] at ho62))
           have n0_ := Aside0.mk (Kd.R_lower ho62 (below_size (by repeat (first | (with_reducible first | exact HB.out | apply below_alloc | apply pw_below_drewN | apply below_drew1 | refine below_set ?_ GE126.out) | exact HB.out))))
           have n1_ := Aside0.mk (blk_below (g := gb126) (o := .cells #[.int .i64 t118, .int .i64 t119, .int .i64 t120, .int .i64 t121, .int .i64 t122, .int .i64 t123, .int .i64 t124, .int .i64 t125] 23 (0, 0)) (by (with_reducible repeat (first | refine blk_drewN ?_ _ | refine blk_drew ?_ | refine blk_alloc ?_ _)); exact BK126.out) hb)
           have n2_ := Aside0.mk (below_step (by repeat (first | (with_reducible first | exact HB.out | apply below_alloc | apply pw_below_drewN | apply below_drew1 | refine below_set ?_ GE126.out) | exact HB.out)) hb)
           clear BK126
           clear HB
           have HO135 := n0_
           have BK126 := n1_
           have HB := n2_
           clear n0_ n1_ n2_
           clear hb ho62
           refine hK.out _ _ ⟨(blk_cell BK126.out 0).trans rfl, (blk_cell BK126.out 1).trans rfl, (blk_cell BK126.out 2).trans rfl, (blk_cell BK126.out 3).trans rfl, (blk_cell BK126.out 4).trans rfl, (blk_cell BK126.out 5).trans rfl, (blk_cell BK126.out 6).trans rfl, (blk_cell BK126.out 7).trans rfl⟩ (fun hHeld => ?_)
           clear hK K
           refine norm_ (a' := ?_) ?_ ?_
           rotate_left
           ·show Act.put _ (some 53) _ = _
            simp only [Act.put, List.setIfInBounds_toArray, List.set_cons_zero, List.set_cons_succ, i64_w, i32_w]
            rfl
           refine one_ (i := 6) (N := some 54) #[true, true, true, true, true, true, true, true, true, true, true, false, false, false] rfl rfl (one_of HT_.out (by kernel_rfl)) (by decide) (fun K hK => ?_)
           have hcv63 := own_string (P := Tryd.prog) Tryd.underlying43 Tryd.underlying5 Tryd.underlying9 (Kd.own_of_R HO135.out)
           refine value_ (w1 := ?_) (v := ?_) (by rfl) rfl ?_ ?_
           rotate_left 2
           ·go_simp
            constructor
            ·rfl
            ·rfl
           clear hcv63
           refine hK.out _ _ ⟨(blk_cell BK126.out 0).trans rfl, (blk_cell BK126.out 1).trans rfl, (blk_cell BK126.out 2).trans rfl, (blk_cell BK126.out 3).trans rfl, (blk_cell BK126.out 4).trans rfl, (blk_cell BK126.out 5).trans rfl, (blk_cell BK126.out 6).trans rfl, (blk_cell BK126.out 7).trans rfl⟩ (fun hHeld => ?_)
           clear hK K
           refine norm_ (a' := ?_) ?_ ?_
           rotate_left
           ·show Act.put _ (some 54) _ = _
            simp only [Act.put, List.setIfInBounds_toArray, List.set_cons_zero, List.set_cons_succ, i64_w, i32_w]
            rfl
           exact norm_ (by simp only [putAll, Act.put, List.setIfInBounds_toArray, List.set_cons_zero, List.set_cons_succ]) (hCont (v134) _ ⟨hHeld, (by (with_reducible repeat (first | apply Kd.R_alloc | apply Kd.R_drewN | apply Kd.R_drew)); exact HO135.out), (by (with_reducible repeat (first | refine blk_drewN ?_ _ | refine blk_drew ?_ | refine blk_alloc ?_ _)); exact BK126.out), (by repeat (first | (with_reducible first | exact HB.out | apply below_alloc | apply pw_below_drewN | apply below_drew1 | refine below_set ?_ GE126.out) | exact HB.out))⟩)
         rintro v134 w64 ⟨hS_, h0_, h1_, h2_⟩
         have n0_ : Aside0 (Kd.R (Kd.int .u8) 5 w64 w.heap.size (fun _ => True) v134 y133) := ⟨h0_⟩
         have n1_ : Aside0 (w64.heap[gb126]? = some (.cells #[.int .i64 t118, .int .i64 t119, .int .i64 t120, .int .i64 t121, .int .i64 t122, .int .i64 t123, .int .i64 t124, .int .i64 t125] 23 (0, 0))) := ⟨h1_⟩
         have n2_ : Aside0 (Below w.heap.size w w64) := ⟨h2_⟩
         clear BK126
         clear HB
         clear h0_ h1_ h2_
         have HO135 := n0_
         have BK126 := n1_
         have HB := n2_
         clear n0_ n1_ n2_
         have hHeld : w64.cell? ⟨gb126, 0, none⟩ = some (.int .i64 t118) ∧ w64.cell? ⟨gb126, 1, none⟩ = some (.int .i64 t119) ∧ w64.cell? ⟨gb126, 2, none⟩ = some (.int .i64 t120) ∧ w64.cell? ⟨gb126, 3, none⟩ = some (.int .i64 t121) ∧ w64.cell? ⟨gb126, 4, none⟩ = some (.int .i64 t122) ∧ w64.cell? ⟨gb126, 5, none⟩ = some (.int .i64 t123) ∧ w64.cell? ⟨gb126, 6, none⟩ = some (.int .i64 t124) ∧ w64.cell? ⟨gb126, 7, none⟩ = some (.int .i64 t125) := hS_
         refine norm_ (a' := ?_) ?_ ?_
         rotate_left
         ·simp only [putAll, Act.put, List.setIfInBounds_toArray, List.set_cons_zero, List.set_cons_succ]
          rfl
         refine pure_ (i := 11) (N := some 59) (v := ?_) (a' := ?_) #[true, true, true, true, true, true, true, true, true, true, true, true, false, false] rfl rfl (any_of HT_.out (by kernel_rfl)) (fun _ _ _ h => h) (Or.inl ⟨by rfl, ?_⟩) ?_ ?_
         rotate_left
         ·intro w'
          go_simp
          with_reducible rfl
         rotate_left
         ·simp only [Act.put, List.setIfInBounds_toArray, List.set_cons_zero, List.set_cons_succ, i64_w, i32_w]
          rfl
         refine pure_ (i := 12) (N := some 6) (v := ?_) (a' := ?_) #[true, true, true, true, true, true, true, true, true, true, true, true, true, false] rfl rfl (any_of HT_.out (by kernel_rfl)) (fun _ _ _ h => h) (Or.inl ⟨by rfl, ?_⟩) ?_ ?_
         rotate_left
         ·intro w'
          go_simp
          with_reducible rfl
         rotate_left
         ·simp only [Act.put, List.setIfInBounds_toArray, List.set_cons_zero, List.set_cons_succ, i64_w, i32_w]
          rfl
         refine pure_ (i := 13) (N := some 7) (v := ?_) (a' := ?_) #[true, true, true, true, true, true, true, true, true, true, true, true, true, true] rfl rfl (any_of HT_.out (by kernel_rfl)) (fun _ _ _ h => h) (Or.inl ⟨by rfl, ?_⟩) ?_ ?_
         rotate_left
         ·intro w'
          go_simp
          with_reducible rfl
         rotate_left
         ·simp only [Act.put, List.setIfInBounds_toArray, List.set_cons_zero, List.set_cons_succ, i64_w, i32_w]
          rfl
         refine done_ (done_of HT_.out (by kernel_rfl)) ?_
         try go_wp2
         go_ret2
         exact ⟨by first | rfl | (simp [errW_none, errW_some] <;> rfl) | (simp [*, errW_none, errW_some] <;> rfl), by repeat (first | (with_reducible first | exact HB.out | apply below_alloc | apply pw_below_drewN | apply below_drew1 | refine below_set ?_ GE126.out) | exact HB.out)⟩
        ·rw [if_neg c54] at H
         exact absurd H (by simp)
       ·rw [if_neg c52] at H
        have c52b0 : (a0 == 106) = false := beq_eq_false_iff_ne.mpr c52
        have c52b1 : (a0 != 106) = true := bne_iff_ne.mpr c52
        by_cases c65 : a0 = 115
        ·rw [if_pos c65] at H
         have c65b0 : (a0 == 115) = true := beq_iff_eq.mpr c65
         have c65b1 : (a0 != 115) = false := bne_eq_false_iff_eq.mpr c65
         clear c65
         replace H := Option.bind_eq_some_iff.mp H
         obtain ⟨t137, A660, H⟩ := H
         replace H : (some (t137, true)) = some (r1, r2) := H
         have A66 := Aside0.mk A660
         clear A660
         simp only [Option.some.injEq, Prod.mk.injEq] at H
         obtain ⟨rfl, rfl⟩ := H
         go_enter Tryd.func25, Tryd.ntmps25
         go_wp2_with (first | ((with_reducible refine gate_callee (f := 31) rfl ?_); refine goesL_ (some 14) rfl rfl Tryd.func31 (by kernel_rfl) rfl #[.int .i64 a1, .int .i64 a2] rfl (by (try simp only [List.map_toArray, List.map_cons, List.map_nil]); first | done | rfl | (simp only [List.length_drop, List.length_take]; rfl)) ?_; (with_reducible refine (domesdayref04_Of.calls k a1 a2 t118 t119 t120 t121 t122 t123 t124 t125 _ A4.out).mono ?_); rintro e w67 ⟨rfl, hb⟩; refine ⟨_, rfl, ?_⟩; have n0_ := Aside0.mk (below_step (by repeat (first | (with_reducible first | exact HB.out | apply below_alloc | apply pw_below_drewN | apply below_drew1) | exact HB.out)) hb); clear HB; have HB := n0_; clear n0_; (try clear hb); (try clear hb2); (try clear hk); (try clear hi)) | ((with_reducible refine gate_dst (N := 8) rfl ?_); refine box_event ?hg (N := 8) ?hd (cs := #[.int .i64 0, .int .i64 0, .int .i64 0, .int .i64 0, .int .i64 0, .int .i64 0, .int .i64 0, .int .i64 0]) (t := 23) ?hr ?_; (case hd => rfl); (case hg => rfl); (case hr => first | (go_simp; done) | (go_simp; rfl)); intro gb126 hg w68 hbox hb; have n0_ := Aside0.mk (below_step (by repeat (first | (with_reducible first | exact HB.out | apply below_alloc | apply pw_below_drewN | apply below_drew1) | exact HB.out)) hb); have n1_ := Aside0.mk (hbox); have n2_ := Aside0.mk ((by rw [hg]; exact (below_size (by repeat (first | (with_reducible first | exact HB.out | apply below_alloc | apply pw_below_drewN | apply below_drew1) | exact HB.out))) : w.heap.size ≤ gb126)); have n3_ := Aside0.mk ((by rw [hg]; exact (below_size (by repeat (first | (with_reducible first | exact HB.out | apply below_alloc | apply pw_below_drewN | apply below_drew1) | exact HB.out))) : w.heap.size ≤ gb126)); clear HB; have HB := n0_; have BK126 := n1_; have GW126 := n2_; have GE126 := n3_; clear n0_ n1_ n2_ n3_; clear hb hbox hg; have hcz69_0 : w68.cell? ⟨gb126, 0, none⟩ = some (.int .i64 0) := (blk_cell BK126.out 0).trans rfl; have hcz69_1 : w68.cell? ⟨gb126, 1, none⟩ = some (.int .i64 0) := (blk_cell BK126.out 1).trans rfl; have hcz69_2 : w68.cell? ⟨gb126, 2, none⟩ = some (.int .i64 0) := (blk_cell BK126.out 2).trans rfl; have hcz69_3 : w68.cell? ⟨gb126, 3, none⟩ = some (.int .i64 0) := (blk_cell BK126.out 3).trans rfl; have hcz69_4 : w68.cell? ⟨gb126, 4, none⟩ = some (.int .i64 0) := (blk_cell BK126.out 4).trans rfl; have hcz69_5 : w68.cell? ⟨gb126, 5, none⟩ = some (.int .i64 0) := (blk_cell BK126.out 5).trans rfl; have hcz69_6 : w68.cell? ⟨gb126, 6, none⟩ = some (.int .i64 0) := (blk_cell BK126.out 6).trans rfl; have hcz69_7 : w68.cell? ⟨gb126, 7, none⟩ = some (.int .i64 0) := (blk_cell BK126.out 7).trans rfl; have hfz69_0 := blk_frozen BK126.out 0; have hfz69_1 := blk_frozen BK126.out 1; have hfz69_2 := blk_frozen BK126.out 2; have hfz69_3 := blk_frozen BK126.out 3; have hfz69_4 := blk_frozen BK126.out 4; have hfz69_5 := blk_frozen BK126.out 5; have hfz69_6 := blk_frozen BK126.out 6; have hfz69_7 := blk_frozen BK126.out 7) | ((with_reducible refine gate_callee (f := 32) rfl ?_); refine goesL_ (some 63) rfl rfl Tryd.func32 (by kernel_rfl) rfl #[.int .i64 a1] rfl (by (try simp only [List.map_toArray, List.map_cons, List.map_nil]); first | done | rfl | (simp only [List.length_drop, List.length_take]; rfl)) ?_; (with_reducible refine (domesdayref01_Dec.calls k a1 t137 _ A66.out).mono ?_); rintro e w' ⟨rfl, ⟨nd, rfl⟩⟩; refine ⟨_, rfl, ?_⟩))
         go_ret2
         exact ⟨by first | rfl | (simp [errW_none, errW_some] <;> rfl) | (simp [*, errW_none, errW_some] <;> rfl), by repeat (first | (with_reducible first | exact HB.out | apply below_alloc | apply pw_below_drewN | apply below_drew1 | refine below_set ?_ GE126.out) | exact HB.out)⟩
        ·rw [if_neg c65] at H
         have c65b0 : (a0 == 115) = false := beq_eq_false_iff_ne.mpr c65
         have c65b1 : (a0 != 115) = true := bne_iff_ne.mpr c65
         by_cases c70 : a0 = 37
         ·rw [if_pos c70] at H
          have c70b0 : (a0 == 37) = true := beq_iff_eq.mpr c70
          have c70b1 : (a0 != 37) = false := bne_eq_false_iff_eq.mpr c70
          clear c70
          simp only [Option.some.injEq, Prod.mk.injEq] at H
          obtain ⟨rfl, rfl⟩ := H
          go_enter Tryd.func25, Tryd.ntmps25
          go_wp2_with (first | ((with_reducible refine gate_callee (f := 31) rfl ?_); refine goesL_ (some 14) rfl rfl Tryd.func31 (by kernel_rfl) rfl #[.int .i64 a1, .int .i64 a2] rfl (by (try simp only [List.map_toArray, List.map_cons, List.map_nil]); first | done | rfl | (simp only [List.length_drop, List.length_take]; rfl)) ?_; (with_reducible refine (domesdayref04_Of.calls k a1 a2 t118 t119 t120 t121 t122 t123 t124 t125 _ A4.out).mono ?_); rintro e w71 ⟨rfl, hb⟩; refine ⟨_, rfl, ?_⟩; have n0_ := Aside0.mk (below_step (by repeat (first | (with_reducible first | exact HB.out | apply below_alloc | apply pw_below_drewN | apply below_drew1) | exact HB.out)) hb); clear HB; have HB := n0_; clear n0_; (try clear hb); (try clear hb2); (try clear hk); (try clear hi)) | ((with_reducible refine gate_dst (N := 8) rfl ?_); refine box_event ?hg (N := 8) ?hd (cs := #[.int .i64 0, .int .i64 0, .int .i64 0, .int .i64 0, .int .i64 0, .int .i64 0, .int .i64 0, .int .i64 0]) (t := 23) ?hr ?_; (case hd => rfl); (case hg => rfl); (case hr => first | (go_simp; done) | (go_simp; rfl)); intro gb126 hg w72 hbox hb; have n0_ := Aside0.mk (below_step (by repeat (first | (with_reducible first | exact HB.out | apply below_alloc | apply pw_below_drewN | apply below_drew1) | exact HB.out)) hb); have n1_ := Aside0.mk (hbox); have n2_ := Aside0.mk ((by rw [hg]; exact (below_size (by repeat (first | (with_reducible first | exact HB.out | apply below_alloc | apply pw_below_drewN | apply below_drew1) | exact HB.out))) : w.heap.size ≤ gb126)); have n3_ := Aside0.mk ((by rw [hg]; exact (below_size (by repeat (first | (with_reducible first | exact HB.out | apply below_alloc | apply pw_below_drewN | apply below_drew1) | exact HB.out))) : w.heap.size ≤ gb126)); clear HB; have HB := n0_; have BK126 := n1_; have GW126 := n2_; have GE126 := n3_; clear n0_ n1_ n2_ n3_; clear hb hbox hg; have hcz73_0 : w72.cell? ⟨gb126, 0, none⟩ = some (.int .i64 0) := (blk_cell BK126.out 0).trans rfl; have hcz73_1 : w72.cell? ⟨gb126, 1, none⟩ = some (.int .i64 0) := (blk_cell BK126.out 1).trans rfl; have hcz73_2 : w72.cell? ⟨gb126, 2, none⟩ = some (.int .i64 0) := (blk_cell BK126.out 2).trans rfl; have hcz73_3 : w72.cell? ⟨gb126, 3, none⟩ = some (.int .i64 0) := (blk_cell BK126.out 3).trans rfl; have hcz73_4 : w72.cell? ⟨gb126, 4, none⟩ = some (.int .i64 0) := (blk_cell BK126.out 4).trans rfl; have hcz73_5 : w72.cell? ⟨gb126, 5, none⟩ = some (.int .i64 0) := (blk_cell BK126.out 5).trans rfl; have hcz73_6 : w72.cell? ⟨gb126, 6, none⟩ = some (.int .i64 0) := (blk_cell BK126.out 6).trans rfl; have hcz73_7 : w72.cell? ⟨gb126, 7, none⟩ = some (.int .i64 0) := (blk_cell BK126.out 7).trans rfl; have hfz73_0 := blk_frozen BK126.out 0; have hfz73_1 := blk_frozen BK126.out 1; have hfz73_2 := blk_frozen BK126.out 2; have hfz73_3 := blk_frozen BK126.out 3; have hfz73_4 := blk_frozen BK126.out 4; have hfz73_5 := blk_frozen BK126.out 5; have hfz73_6 := blk_frozen BK126.out 6; have hfz73_7 := blk_frozen BK126.out 7))
          go_ret2
          exact ⟨by first | rfl | (simp [errW_none, errW_some] <;> rfl) | (simp [*, errW_none, errW_some] <;> rfl), by repeat (first | (with_reducible first | exact HB.out | apply below_alloc | apply pw_below_drewN | apply below_drew1 | refine below_set ?_ GE126.out) | exact HB.out)⟩
         ·rw [if_neg c70] at H
          have c70b0 : (a0 == 37) = false := beq_eq_false_iff_ne.mpr c70
          have c70b1 : (a0 != 37) = true := bne_iff_ne.mpr c70
          by_cases c74 : a0 = 98
          ·rw [if_pos c74] at H
           have c74b0 : (a0 == 98) = true := beq_iff_eq.mpr c74
           have c74b1 : (a0 != 98) = false := bne_eq_false_iff_eq.mpr c74
           clear c74
           by_cases c75 : 0 ≤ t119
           ·rw [if_pos c75] at H
            have c75b0 : decide (0 ≤ t119) = true := decide_eq_true c75
            clear c75
            by_cases c76 : t119 < 13
            ·rw [if_pos c76] at H
             have c76b0 : decide (t119 < 13) = true := decide_eq_true c76
             clear c76
             simp only [Option.some.injEq, Prod.mk.injEq] at H
             obtain ⟨rfl, rfl⟩ := H
             go_enter Tryd.func25, Tryd.ntmps25
             go_wp2_with (first | ((with_reducible refine gate_callee (f := 31) rfl ?_); refine goesL_ (some 14) rfl rfl Tryd.func31 (by kernel_rfl) rfl #[.int .i64 a1, .int .i64 a2] rfl (by (try simp only [List.map_toArray, List.map_cons, List.map_nil]); first | done | rfl | (simp only [List.length_drop, List.length_take]; rfl)) ?_; (with_reducible refine (domesdayref04_Of.calls k a1 a2 t118 t119 t120 t121 t122 t123 t124 t125 _ A4.out).mono ?_); rintro e w77 ⟨rfl, hb⟩; refine ⟨_, rfl, ?_⟩; have n0_ := Aside0.mk (below_step (by repeat (first | (with_reducible first | exact HB.out | apply below_alloc | apply pw_below_drewN | apply below_drew1) | exact HB.out)) hb); clear HB; have HB := n0_; clear n0_; (try clear hb); (try clear hb2); (try clear hk); (try clear hi)) | ((with_reducible refine gate_dst (N := 8) rfl ?_); refine box_event ?hg (N := 8) ?hd (cs := #[.int .i64 0, .int .i64 0, .int .i64 0, .int .i64 0, .int .i64 0, .int .i64 0, .int .i64 0, .int .i64 0]) (t := 23) ?hr ?_; (case hd => rfl); (case hg => rfl); (case hr => first | (go_simp; done) | (go_simp; rfl)); intro gb126 hg w78 hbox hb; have n0_ := Aside0.mk (below_step (by repeat (first | (with_reducible first | exact HB.out | apply below_alloc | apply pw_below_drewN | apply below_drew1) | exact HB.out)) hb); have n1_ := Aside0.mk (hbox); have n2_ := Aside0.mk ((by rw [hg]; exact (below_size (by repeat (first | (with_reducible first | exact HB.out | apply below_alloc | apply pw_below_drewN | apply below_drew1) | exact HB.out))) : w.heap.size ≤ gb126)); have n3_ := Aside0.mk ((by rw [hg]; exact (below_size (by repeat (first | (with_reducible first | exact HB.out | apply below_alloc | apply pw_below_drewN | apply below_drew1) | exact HB.out))) : w.heap.size ≤ gb126)); clear HB; have HB := n0_; have BK126 := n1_; have GW126 := n2_; have GE126 := n3_; clear n0_ n1_ n2_ n3_; clear hb hbox hg; have hcz79_0 : w78.cell? ⟨gb126, 0, none⟩ = some (.int .i64 0) := (blk_cell BK126.out 0).trans rfl; have hcz79_1 : w78.cell? ⟨gb126, 1, none⟩ = some (.int .i64 0) := (blk_cell BK126.out 1).trans rfl; have hcz79_2 : w78.cell? ⟨gb126, 2, none⟩ = some (.int .i64 0) := (blk_cell BK126.out 2).trans rfl; have hcz79_3 : w78.cell? ⟨gb126, 3, none⟩ = some (.int .i64 0) := (blk_cell BK126.out 3).trans rfl; have hcz79_4 : w78.cell? ⟨gb126, 4, none⟩ = some (.int .i64 0) := (blk_cell BK126.out 4).trans rfl; have hcz79_5 : w78.cell? ⟨gb126, 5, none⟩ = some (.int .i64 0) := (blk_cell BK126.out 5).trans rfl; have hcz79_6 : w78.cell? ⟨gb126, 6, none⟩ = some (.int .i64 0) := (blk_cell BK126.out 6).trans rfl; have hcz79_7 : w78.cell? ⟨gb126, 7, none⟩ = some (.int .i64 0) := (blk_cell BK126.out 7).trans rfl; have hfz79_0 := blk_frozen BK126.out 0; have hfz79_1 := blk_frozen BK126.out 1; have hfz79_2 := blk_frozen BK126.out 2; have hfz79_3 := blk_frozen BK126.out 3; have hfz79_4 := blk_frozen BK126.out 4; have hfz79_5 := blk_frozen BK126.out 5; have hfz79_6 := blk_frozen BK126.out 6; have hfz79_7 := blk_frozen BK126.out 7) | ((with_reducible refine gate_store (t := 23) (p := 8) rfl ?_); refine store_event (t := 23) (p := 8) (v := ?vo_w80) (w1 := ((((((((w78.setCell ⟨gb126, 0, none⟩ (.int .i64 t118)).setCell ⟨gb126, 1, none⟩ (.int .i64 t119)).setCell ⟨gb126, 2, none⟩ (.int .i64 t120)).setCell ⟨gb126, 3, none⟩ (.int .i64 t121)).setCell ⟨gb126, 4, none⟩ (.int .i64 t122)).setCell ⟨gb126, 5, none⟩ (.int .i64 t123)).setCell ⟨gb126, 6, none⟩ (.int .i64 t124)).setCell ⟨gb126, 7, none⟩ (.int .i64 t125))) ?hg ?ho ?hn ?hr ?_; (case ho => rfl); (case hg => rfl); (case hn => rfl); (case hr => first | (go_simp; done) | (go_simp; rfl)); intro w80 hw; have n0_ : Aside0 (w80.heap[gb126]? = some (.cells #[.int .i64 t118, .int .i64 t119, .int .i64 t120, .int .i64 t121, .int .i64 t122, .int .i64 t123, .int .i64 t124, .int .i64 t125] 23 (0, 0))) := ⟨(by rw [hw]; exact (by (with_reducible repeat (first | refine blk_drewN ?_ _ | refine blk_drew ?_ | refine blk_alloc ?_ _)); refine blk_put (cs := #[.int .i64 t118, .int .i64 t119, .int .i64 t120, .int .i64 t121, .int .i64 t122, .int .i64 t123, .int .i64 t124, .int .i64 0]) ?_ 7 _ (by first | rfl | (simp; done)); (with_reducible repeat (first | refine blk_drewN ?_ _ | refine blk_drew ?_ | refine blk_alloc ?_ _)); refine blk_put (cs := #[.int .i64 t118, .int .i64 t119, .int .i64 t120, .int .i64 t121, .int .i64 t122, .int .i64 t123, .int .i64 0, .int .i64 0]) ?_ 6 _ (by first | rfl | (simp; done)); (with_reducible repeat (first | refine blk_drewN ?_ _ | refine blk_drew ?_ | refine blk_alloc ?_ _)); refine blk_put (cs := #[.int .i64 t118, .int .i64 t119, .int .i64 t120, .int .i64 t121, .int .i64 t122, .int .i64 0, .int .i64 0, .int .i64 0]) ?_ 5 _ (by first | rfl | (simp; done)); (with_reducible repeat (first | refine blk_drewN ?_ _ | refine blk_drew ?_ | refine blk_alloc ?_ _)); refine blk_put (cs := #[.int .i64 t118, .int .i64 t119, .int .i64 t120, .int .i64 t121, .int .i64 0, .int .i64 0, .int .i64 0, .int .i64 0]) ?_ 4 _ (by first | rfl | (simp; done)); (with_reducible repeat (first | refine blk_drewN ?_ _ | refine blk_drew ?_ | refine blk_alloc ?_ _)); refine blk_put (cs := #[.int .i64 t118, .int .i64 t119, .int .i64 t120, .int .i64 0, .int .i64 0, .int .i64 0, .int .i64 0, .int .i64 0]) ?_ 3 _ (by first | rfl | (simp; done)); (with_reducible repeat (first | refine blk_drewN ?_ _ | refine blk_drew ?_ | refine blk_alloc ?_ _)); refine blk_put (cs := #[.int .i64 t118, .int .i64 t119, .int .i64 0, .int .i64 0, .int .i64 0, .int .i64 0, .int .i64 0, .int .i64 0]) ?_ 2 _ (by first | rfl | (simp; done)); (with_reducible repeat (first | refine blk_drewN ?_ _ | refine blk_drew ?_ | refine blk_alloc ?_ _)); refine blk_put (cs := #[.int .i64 t118, .int .i64 0, .int .i64 0, .int .i64 0, .int .i64 0, .int .i64 0, .int .i64 0, .int .i64 0]) ?_ 1 _ (by first | rfl | (simp; done)); (with_reducible repeat (first | refine blk_drewN ?_ _ | refine blk_drew ?_ | refine blk_alloc ?_ _)); refine blk_put (cs := #[.int .i64 0, .int .i64 0, .int .i64 0, .int .i64 0, .int .i64 0, .int .i64 0, .int .i64 0, .int .i64 0]) ?_ 0 _ (by first | rfl | (simp; done)); (with_reducible repeat (first | refine blk_drewN ?_ _ | refine blk_drew ?_ | refine blk_alloc ?_ _)); exact BK126.out))⟩; have n1_ : Aside0 (Below w.heap.size w w80) := ⟨(by rw [hw]; exact (by repeat (first | (with_reducible first | exact HB.out | apply below_alloc | apply pw_below_drewN | apply below_drew1 | refine below_set ?_ GE126.out) | exact HB.out)))⟩; clear hw; clear BK126; clear HB; have BK126 := n0_; have HB := n1_; clear n0_ n1_; have hcz81_0 : w80.cell? ⟨gb126, 0, none⟩ = some (.int .i64 t118) := (blk_cell BK126.out 0).trans rfl; have hcz81_1 : w80.cell? ⟨gb126, 1, none⟩ = some (.int .i64 t119) := (blk_cell BK126.out 1).trans rfl; have hcz81_2 : w80.cell? ⟨gb126, 2, none⟩ = some (.int .i64 t120) := (blk_cell BK126.out 2).trans rfl; have hcz81_3 : w80.cell? ⟨gb126, 3, none⟩ = some (.int .i64 t121) := (blk_cell BK126.out 3).trans rfl; have hcz81_4 : w80.cell? ⟨gb126, 4, none⟩ = some (.int .i64 t122) := (blk_cell BK126.out 4).trans rfl; have hcz81_5 : w80.cell? ⟨gb126, 5, none⟩ = some (.int .i64 t123) := (blk_cell BK126.out 5).trans rfl; have hcz81_6 : w80.cell? ⟨gb126, 6, none⟩ = some (.int .i64 t124) := (blk_cell BK126.out 6).trans rfl; have hcz81_7 : w80.cell? ⟨gb126, 7, none⟩ = some (.int .i64 t125) := (blk_cell BK126.out 7).trans rfl; have hfz81_0 := blk_frozen BK126.out 0; have hfz81_1 := blk_frozen BK126.out 1; have hfz81_2 := blk_frozen BK126.out 2; have hfz81_3 := blk_frozen BK126.out 3; have hfz81_4 := blk_frozen BK126.out 4; have hfz81_5 := blk_frozen BK126.out 5; have hfz81_6 := blk_frozen BK126.out 6; have hfz81_7 := blk_frozen BK126.out 7; have p82 : 0 ≤ (t119 : Int) := of_decide_eq_true (by first | (with_reducible assumption) | assumption); have q82 : t119 < (13 : Int) := of_decide_eq_true (by first | (with_reducible assumption) | assumption); have hj82 : ∀ W_ : World, (Instr.index 60 (.agg #[.string (⟨#[]⟩ : ByteArray), .string (⟨#[74, 97, 110]⟩ : ByteArray), .string (⟨#[70, 101, 98]⟩ : ByteArray), .string (⟨#[77, 97, 114]⟩ : ByteArray), .string (⟨#[65, 112, 114]⟩ : ByteArray), .string (⟨#[77, 97, 121]⟩ : ByteArray), .string (⟨#[74, 117, 110]⟩ : ByteArray), .string (⟨#[74, 117, 108]⟩ : ByteArray), .string (⟨#[65, 117, 103]⟩ : ByteArray), .string (⟨#[83, 101, 112]⟩ : ByteArray), .string (⟨#[79, 99, 116]⟩ : ByteArray), .string (⟨#[78, 111, 118]⟩ : ByteArray), .string (⟨#[68, 101, 99]⟩ : ByteArray)]) (.int .i64 t119)).run Tryd.prog W_ = .ok (.string (rdOf ByteArray.empty [(⟨#[]⟩ : ByteArray), (⟨#[74, 97, 110]⟩ : ByteArray), (⟨#[70, 101, 98]⟩ : ByteArray), (⟨#[77, 97, 114]⟩ : ByteArray), (⟨#[65, 112, 114]⟩ : ByteArray), (⟨#[77, 97, 121]⟩ : ByteArray), (⟨#[74, 117, 110]⟩ : ByteArray), (⟨#[74, 117, 108]⟩ : ByteArray), (⟨#[65, 117, 103]⟩ : ByteArray), (⟨#[83, 101, 112]⟩ : ByteArray), (⟨#[79, 99, 116]⟩ : ByteArray), (⟨#[78, 111, 118]⟩ : ByteArray), (⟨#[68, 101, 99]⟩ : ByteArray)] t119)) W_ := fun W_ => arr_index_str [(⟨#[]⟩ : ByteArray), (⟨#[74, 97, 110]⟩ : ByteArray), (⟨#[70, 101, 98]⟩ : ByteArray), (⟨#[77, 97, 114]⟩ : ByteArray), (⟨#[65, 112, 114]⟩ : ByteArray), (⟨#[77, 97, 121]⟩ : ByteArray), (⟨#[74, 117, 110]⟩ : ByteArray), (⟨#[74, 117, 108]⟩ : ByteArray), (⟨#[65, 117, 103]⟩ : ByteArray), (⟨#[83, 101, 112]⟩ : ByteArray), (⟨#[79, 99, 116]⟩ : ByteArray), (⟨#[78, 111, 118]⟩ : ByteArray), (⟨#[68, 101, 99]⟩ : ByteArray)] rfl Tryd.underlying60 Tryd.underlying9 (by kernel_rfl) t119 p82 q82 rfl W_; replace p82 := eq_true p82; replace q82 := eq_true q82))
             go_ret2
             exact ⟨by first | rfl | (simp [errW_none, errW_some] <;> rfl) | (simp [*, errW_none, errW_some] <;> rfl), by repeat (first | (with_reducible first | exact HB.out | apply below_alloc | apply pw_below_drewN | apply below_drew1 | refine below_set ?_ GE126.out) | exact HB.out)⟩
            ·rw [if_neg c76] at H
             exact absurd H (by simp)
           ·rw [if_neg c75] at H
            exact absurd H (by simp)
          ·rw [if_neg c74] at H
           have c74b0 : (a0 == 98) = false := beq_eq_false_iff_ne.mpr c74
           have c74b1 : (a0 != 98) = true := bne_iff_ne.mpr c74
           by_cases c83 : a0 = 97
           ·rw [if_pos c83] at H
            have c83b0 : (a0 == 97) = true := beq_iff_eq.mpr c83
            have c83b1 : (a0 != 97) = false := bne_eq_false_iff_eq.mpr c83
            clear c83
            by_cases c84 : 0 ≤ t124
            ·rw [if_pos c84] at H
             have c84b0 : decide (0 ≤ t124) = true := decide_eq_true c84
             clear c84
             by_cases c85 : t124 < 7
             ·rw [if_pos c85] at H
              have c85b0 : decide (t124 < 7) = true := decide_eq_true c85
              clear c85
              simp only [Option.some.injEq, Prod.mk.injEq] at H
              obtain ⟨rfl, rfl⟩ := H
              go_enter Tryd.func25, Tryd.ntmps25
              go_wp2_with (first | ((with_reducible refine gate_callee (f := 31) rfl ?_); refine goesL_ (some 14) rfl rfl Tryd.func31 (by kernel_rfl) rfl #[.int .i64 a1, .int .i64 a2] rfl (by (try simp only [List.map_toArray, List.map_cons, List.map_nil]); first | done | rfl | (simp only [List.length_drop, List.length_take]; rfl)) ?_; (with_reducible refine (domesdayref04_Of.calls k a1 a2 t118 t119 t120 t121 t122 t123 t124 t125 _ A4.out).mono ?_); rintro e w86 ⟨rfl, hb⟩; refine ⟨_, rfl, ?_⟩; have n0_ := Aside0.mk (below_step (by repeat (first | (with_reducible first | exact HB.out | apply below_alloc | apply pw_below_drewN | apply below_drew1) | exact HB.out)) hb); clear HB; have HB := n0_; clear n0_; (try clear hb); (try clear hb2); (try clear hk); (try clear hi)) | ((with_reducible refine gate_dst (N := 8) rfl ?_); refine box_event ?hg (N := 8) ?hd (cs := #[.int .i64 0, .int .i64 0, .int .i64 0, .int .i64 0, .int .i64 0, .int .i64 0, .int .i64 0, .int .i64 0]) (t := 23) ?hr ?_; (case hd => rfl); (case hg => rfl); (case hr => first | (go_simp; done) | (go_simp; rfl)); intro gb126 hg w87 hbox hb; have n0_ := Aside0.mk (below_step (by repeat (first | (with_reducible first | exact HB.out | apply below_alloc | apply pw_below_drewN | apply below_drew1) | exact HB.out)) hb); have n1_ := Aside0.mk (hbox); have n2_ := Aside0.mk ((by rw [hg]; exact (below_size (by repeat (first | (with_reducible first | exact HB.out | apply below_alloc | apply pw_below_drewN | apply below_drew1) | exact HB.out))) : w.heap.size ≤ gb126)); have n3_ := Aside0.mk ((by rw [hg]; exact (below_size (by repeat (first | (with_reducible first | exact HB.out | apply below_alloc | apply pw_below_drewN | apply below_drew1) | exact HB.out))) : w.heap.size ≤ gb126)); clear HB; have HB := n0_; have BK126 := n1_; have GW126 := n2_; have GE126 := n3_; clear n0_ n1_ n2_ n3_; clear hb hbox hg; have hcz88_0 : w87.cell? ⟨gb126, 0, none⟩ = some (.int .i64 0) := (blk_cell BK126.out 0).trans rfl; have hcz88_1 : w87.cell? ⟨gb126, 1, none⟩ = some (.int .i64 0) := (blk_cell BK126.out 1).trans rfl; have hcz88_2 : w87.cell? ⟨gb126, 2, none⟩ = some (.int .i64 0) := (blk_cell BK126.out 2).trans rfl; have hcz88_3 : w87.cell? ⟨gb126, 3, none⟩ = some (.int .i64 0) := (blk_cell BK126.out 3).trans rfl; have hcz88_4 : w87.cell? ⟨gb126, 4, none⟩ = some (.int .i64 0) := (blk_cell BK126.out 4).trans rfl; have hcz88_5 : w87.cell? ⟨gb126, 5, none⟩ = some (.int .i64 0) := (blk_cell BK126.out 5).trans rfl; have hcz88_6 : w87.cell? ⟨gb126, 6, none⟩ = some (.int .i64 0) := (blk_cell BK126.out 6).trans rfl; have hcz88_7 : w87.cell? ⟨gb126, 7, none⟩ = some (.int .i64 0) := (blk_cell BK126.out 7).trans rfl; have hfz88_0 := blk_frozen BK126.out 0; have hfz88_1 := blk_frozen BK126.out 1; have hfz88_2 := blk_frozen BK126.out 2; have hfz88_3 := blk_frozen BK126.out 3; have hfz88_4 := blk_frozen BK126.out 4; have hfz88_5 := blk_frozen BK126.out 5; have hfz88_6 := blk_frozen BK126.out 6; have hfz88_7 := blk_frozen BK126.out 7) | ((with_reducible refine gate_store (t := 23) (p := 8) rfl ?_); refine store_event (t := 23) (p := 8) (v := ?vo_w89) (w1 := ((((((((w87.setCell ⟨gb126, 0, none⟩ (.int .i64 t118)).setCell ⟨gb126, 1, none⟩ (.int .i64 t119)).setCell ⟨gb126, 2, none⟩ (.int .i64 t120)).setCell ⟨gb126, 3, none⟩ (.int .i64 t121)).setCell ⟨gb126, 4, none⟩ (.int .i64 t122)).setCell ⟨gb126, 5, none⟩ (.int .i64 t123)).setCell ⟨gb126, 6, none⟩ (.int .i64 t124)).setCell ⟨gb126, 7, none⟩ (.int .i64 t125))) ?hg ?ho ?hn ?hr ?_; (case ho => rfl); (case hg => rfl); (case hn => rfl); (case hr => first | (go_simp; done) | (go_simp; rfl)); intro w89 hw; have n0_ : Aside0 (w89.heap[gb126]? = some (.cells #[.int .i64 t118, .int .i64 t119, .int .i64 t120, .int .i64 t121, .int .i64 t122, .int .i64 t123, .int .i64 t124, .int .i64 t125] 23 (0, 0))) := ⟨(by rw [hw]; exact (by (with_reducible repeat (first | refine blk_drewN ?_ _ | refine blk_drew ?_ | refine blk_alloc ?_ _)); refine blk_put (cs := #[.int .i64 t118, .int .i64 t119, .int .i64 t120, .int .i64 t121, .int .i64 t122, .int .i64 t123, .int .i64 t124, .int .i64 0]) ?_ 7 _ (by first | rfl | (simp; done)); (with_reducible repeat (first | refine blk_drewN ?_ _ | refine blk_drew ?_ | refine blk_alloc ?_ _)); refine blk_put (cs := #[.int .i64 t118, .int .i64 t119, .int .i64 t120, .int .i64 t121, .int .i64 t122, .int .i64 t123, .int .i64 0, .int .i64 0]) ?_ 6 _ (by first | rfl | (simp; done)); (with_reducible repeat (first | refine blk_drewN ?_ _ | refine blk_drew ?_ | refine blk_alloc ?_ _)); refine blk_put (cs := #[.int .i64 t118, .int .i64 t119, .int .i64 t120, .int .i64 t121, .int .i64 t122, .int .i64 0, .int .i64 0, .int .i64 0]) ?_ 5 _ (by first | rfl | (simp; done)); (with_reducible repeat (first | refine blk_drewN ?_ _ | refine blk_drew ?_ | refine blk_alloc ?_ _)); refine blk_put (cs := #[.int .i64 t118, .int .i64 t119, .int .i64 t120, .int .i64 t121, .int .i64 0, .int .i64 0, .int .i64 0, .int .i64 0]) ?_ 4 _ (by first | rfl | (simp; done)); (with_reducible repeat (first | refine blk_drewN ?_ _ | refine blk_drew ?_ | refine blk_alloc ?_ _)); refine blk_put (cs := #[.int .i64 t118, .int .i64 t119, .int .i64 t120, .int .i64 0, .int .i64 0, .int .i64 0, .int .i64 0, .int .i64 0]) ?_ 3 _ (by first | rfl | (simp; done)); (with_reducible repeat (first | refine blk_drewN ?_ _ | refine blk_drew ?_ | refine blk_alloc ?_ _)); refine blk_put (cs := #[.int .i64 t118, .int .i64 t119, .int .i64 0, .int .i64 0, .int .i64 0, .int .i64 0, .int .i64 0, .int .i64 0]) ?_ 2 _ (by first | rfl | (simp; done)); (with_reducible repeat (first | refine blk_drewN ?_ _ | refine blk_drew ?_ | refine blk_alloc ?_ _)); refine blk_put (cs := #[.int .i64 t118, .int .i64 0, .int .i64 0, .int .i64 0, .int .i64 0, .int .i64 0, .int .i64 0, .int .i64 0]) ?_ 1 _ (by first | rfl | (simp; done)); (with_reducible repeat (first | refine blk_drewN ?_ _ | refine blk_drew ?_ | refine blk_alloc ?_ _)); refine blk_put (cs := #[.int .i64 0, .int .i64 0, .int .i64 0, .int .i64 0, .int .i64 0, .int .i64 0, .int .i64 0, .int .i64 0]) ?_ 0 _ (by first | rfl | (simp; done)); (with_reducible repeat (first | refine blk_drewN ?_ _ | refine blk_drew ?_ | refine blk_alloc ?_ _)); exact BK126.out))⟩; have n1_ : Aside0 (Below w.heap.size w w89) := ⟨(by rw [hw]; exact (by repeat (first | (with_reducible first | exact HB.out | apply below_alloc | apply pw_below_drewN | apply below_drew1 | refine below_set ?_ GE126.out) | exact HB.out)))⟩; clear hw; clear BK126; clear HB; have BK126 := n0_; have HB := n1_; clear n0_ n1_; have hcz90_0 : w89.cell? ⟨gb126, 0, none⟩ = some (.int .i64 t118) := (blk_cell BK126.out 0).trans rfl; have hcz90_1 : w89.cell? ⟨gb126, 1, none⟩ = some (.int .i64 t119) := (blk_cell BK126.out 1).trans rfl; have hcz90_2 : w89.cell? ⟨gb126, 2, none⟩ = some (.int .i64 t120) := (blk_cell BK126.out 2).trans rfl; have hcz90_3 : w89.cell? ⟨gb126, 3, none⟩ = some (.int .i64 t121) := (blk_cell BK126.out 3).trans rfl; have hcz90_4 : w89.cell? ⟨gb126, 4, none⟩ = some (.int .i64 t122) := (blk_cell BK126.out 4).trans rfl; have hcz90_5 : w89.cell? ⟨gb126, 5, none⟩ = some (.int .i64 t123) := (blk_cell BK126.out 5).trans rfl; have hcz90_6 : w89.cell? ⟨gb126, 6, none⟩ = some (.int .i64 t124) := (blk_cell BK126.out 6).trans rfl; have hcz90_7 : w89.cell? ⟨gb126, 7, none⟩ = some (.int .i64 t125) := (blk_cell BK126.out 7).trans rfl; have hfz90_0 := blk_frozen BK126.out 0; have hfz90_1 := blk_frozen BK126.out 1; have hfz90_2 := blk_frozen BK126.out 2; have hfz90_3 := blk_frozen BK126.out 3; have hfz90_4 := blk_frozen BK126.out 4; have hfz90_5 := blk_frozen BK126.out 5; have hfz90_6 := blk_frozen BK126.out 6; have hfz90_7 := blk_frozen BK126.out 7; have p91 : 0 ≤ (t124 : Int) := of_decide_eq_true (by first | (with_reducible assumption) | assumption); have q91 : t124 < (7 : Int) := of_decide_eq_true (by first | (with_reducible assumption) | assumption); have hj91 : ∀ W_ : World, (Instr.index 61 (.agg #[.string (⟨#[83, 117, 110]⟩ : ByteArray), .string (⟨#[77, 111, 110]⟩ : ByteArray), .string (⟨#[84, 117, 101]⟩ : ByteArray), .string (⟨#[87, 101, 100]⟩ : ByteArray), .string (⟨#[84, 104, 117]⟩ : ByteArray), .string (⟨#[70, 114, 105]⟩ : ByteArray), .string (⟨#[83, 97, 116]⟩ : ByteArray)]) (.int .i64 t124)).run Tryd.prog W_ = .ok (.string (rdOf ByteArray.empty [(⟨#[83, 117, 110]⟩ : ByteArray), (⟨#[77, 111, 110]⟩ : ByteArray), (⟨#[84, 117, 101]⟩ : ByteArray), (⟨#[87, 101, 100]⟩ : ByteArray), (⟨#[84, 104, 117]⟩ : ByteArray), (⟨#[70, 114, 105]⟩ : ByteArray), (⟨#[83, 97, 116]⟩ : ByteArray)] t124)) W_ := fun W_ => arr_index_str [(⟨#[83, 117, 110]⟩ : ByteArray), (⟨#[77, 111, 110]⟩ : ByteArray), (⟨#[84, 117, 101]⟩ : ByteArray), (⟨#[87, 101, 100]⟩ : ByteArray), (⟨#[84, 104, 117]⟩ : ByteArray), (⟨#[70, 114, 105]⟩ : ByteArray), (⟨#[83, 97, 116]⟩ : ByteArray)] rfl Tryd.underlying61 Tryd.underlying9 (by kernel_rfl) t124 p91 q91 rfl W_; replace p91 := eq_true p91; replace q91 := eq_true q91))
              go_ret2
              exact ⟨by first | rfl | (simp [errW_none, errW_some] <;> rfl) | (simp [*, errW_none, errW_some] <;> rfl), by repeat (first | (with_reducible first | exact HB.out | apply below_alloc | apply pw_below_drewN | apply below_drew1 | refine below_set ?_ GE126.out) | exact HB.out)⟩
             ·rw [if_neg c85] at H
              exact absurd H (by simp)
            ·rw [if_neg c84] at H
             exact absurd H (by simp)
           ·rw [if_neg c83] at H
            have c83b0 : (a0 == 97) = false := beq_eq_false_iff_ne.mpr c83
            have c83b1 : (a0 != 97) = true := bne_iff_ne.mpr c83
            by_cases c92 : a0 = 70
            ·rw [if_pos c92] at H
             have c92b0 : (a0 == 70) = true := beq_iff_eq.mpr c92
             have c92b1 : (a0 != 70) = false := bne_eq_false_iff_eq.mpr c92
             clear c92
             replace H := Option.bind_eq_some_iff.mp H
             obtain ⟨t138, A930, H⟩ := H
             replace H : (if t138.size + 1 ≤ 9223372036854775807 then ((domesdayref05_two.f t119).bind fun t139 => (if t138.size + 1 + t139.size ≤ 9223372036854775807 then (if t138.size + 1 + t139.size + 1 ≤ 9223372036854775807 then ((domesdayref05_two.f t120).bind fun t140 => (if t138.size + 1 + t139.size + 1 + t140.size ≤ 9223372036854775807 then (some ((((t138 ++ (⟨#[45]⟩ : ByteArray)) ++ t139) ++ (⟨#[45]⟩ : ByteArray)) ++ t140, true)) else (none))) else (none)) else (none))) else (none)) = some (r1, r2) := H
             have A93 := Aside0.mk A930
             clear A930
             by_cases c94 : t138.size + 1 ≤ 9223372036854775807
             ·rw [if_pos c94] at H
              have c94b0 := eq_true c94
              have c94b1 : decide (t138.size + 1 ≤ 9223372036854775807) = true := decide_eq_true c94
              try have c94b2 : (9223372036854775807 < t138.size + 1) = False := eq_false (Nat.not_lt.2 c94)
              replace H := Option.bind_eq_some_iff.mp H
              obtain ⟨t139, A950, H⟩ := H
              replace H : (if t138.size + 1 + t139.size ≤ 9223372036854775807 then (if t138.size + 1 + t139.size + 1 ≤ 9223372036854775807 then ((domesdayref05_two.f t120).bind fun t140 => (if t138.size + 1 + t139.size + 1 + t140.size ≤ 9223372036854775807 then (some ((((t138 ++ (⟨#[45]⟩ : ByteArray)) ++ t139) ++ (⟨#[45]⟩ : ByteArray)) ++ t140, true)) else (none))) else (none)) else (none)) = some (r1, r2) := H
              have A95 := Aside0.mk A950
              clear A950
              by_cases c96 : t138.size + 1 + t139.size ≤ 9223372036854775807
              ·rw [if_pos c96] at H
               have c96b0 := eq_true c96
               have c96b1 : decide (t138.size + 1 + t139.size ≤ 9223372036854775807) = true := decide_eq_true c96
               try have c96b2 : (9223372036854775807 < t138.size + 1 + t139.size) = False := eq_false (Nat.not_lt.2 c96)
               by_cases c97 : t138.size + 1 + t139.size + 1 ≤ 9223372036854775807
               ·rw [if_pos c97] at H
                have c97b0 := eq_true c97
                have c97b1 : decide (t138.size + 1 + t139.size + 1 ≤ 9223372036854775807) = true := decide_eq_true c97
                try have c97b2 : (9223372036854775807 < t138.size + 1 + t139.size + 1) = False := eq_false (Nat.not_lt.2 c97)
                replace H := Option.bind_eq_some_iff.mp H
                obtain ⟨t140, A980, H⟩ := H
                replace H : (if t138.size + 1 + t139.size + 1 + t140.size ≤ 9223372036854775807 then (some ((((t138 ++ (⟨#[45]⟩ : ByteArray)) ++ t139) ++ (⟨#[45]⟩ : ByteArray)) ++ t140, true)) else (none)) = some (r1, r2) := H
                have A98 := Aside0.mk A980
                clear A980
                by_cases c99 : t138.size + 1 + t139.size + 1 + t140.size ≤ 9223372036854775807
                ·rw [if_pos c99] at H
                 have c99b0 := eq_true c99
                 have c99b1 : decide (t138.size + 1 + t139.size + 1 + t140.size ≤ 9223372036854775807) = true := decide_eq_true c99
                 try have c99b2 : (9223372036854775807 < t138.size + 1 + t139.size + 1 + t140.size) = False := eq_false (Nat.not_lt.2 c99)
                 simp only [Option.some.injEq, Prod.mk.injEq] at H
                 obtain ⟨rfl, rfl⟩ := H
                 go_enter Tryd.func25, Tryd.ntmps25
                 try go_wp2_with (first | ((with_reducible refine gate_callee (f := 31) rfl ?_); refine goesL_ (some 14) rfl rfl Tryd.func31 (by kernel_rfl) rfl #[.int .i64 a1, .int .i64 a2] rfl (by (try simp only [List.map_toArray, List.map_cons, List.map_nil]); first | done | rfl | (simp only [List.length_drop, List.length_take]; rfl)) ?_; (with_reducible refine (domesdayref04_Of.calls k a1 a2 t118 t119 t120 t121 t122 t123 t124 t125 _ A4.out).mono ?_); rintro e w100 ⟨rfl, hb⟩; refine ⟨_, rfl, ?_⟩; have n0_ := Aside0.mk (below_step (by repeat (first | (with_reducible first | exact HB.out | apply below_alloc | apply pw_below_drewN | apply below_drew1) | exact HB.out)) hb); clear HB; have HB := n0_; clear n0_; (try clear hb); (try clear hb2); (try clear hk); (try clear hi)) | ((with_reducible refine gate_dst (N := 8) rfl ?_); refine box_event ?hg (N := 8) ?hd (cs := #[.int .i64 0, .int .i64 0, .int .i64 0, .int .i64 0, .int .i64 0, .int .i64 0, .int .i64 0, .int .i64 0]) (t := 23) ?hr ?_; (case hd => rfl); (case hg => rfl); (case hr => first | (go_simp; done) | (go_simp; rfl)); intro gb126 hg w101 hbox hb; have n0_ := Aside0.mk (below_step (by repeat (first | (with_reducible first | exact HB.out | apply below_alloc | apply pw_below_drewN | apply below_drew1) | exact HB.out)) hb); have n1_ := Aside0.mk (hbox); have n2_ := Aside0.mk ((by rw [hg]; exact (below_size (by repeat (first | (with_reducible first | exact HB.out | apply below_alloc | apply pw_below_drewN | apply below_drew1) | exact HB.out))) : w.heap.size ≤ gb126)); have n3_ := Aside0.mk ((by rw [hg]; exact (below_size (by repeat (first | (with_reducible first | exact HB.out | apply below_alloc | apply pw_below_drewN | apply below_drew1) | exact HB.out))) : w.heap.size ≤ gb126)); clear HB; have HB := n0_; have BK126 := n1_; have GW126 := n2_; have GE126 := n3_; clear n0_ n1_ n2_ n3_; clear hb hbox hg; have hcz102_0 : w101.cell? ⟨gb126, 0, none⟩ = some (.int .i64 0) := (blk_cell BK126.out 0).trans rfl; have hcz102_1 : w101.cell? ⟨gb126, 1, none⟩ = some (.int .i64 0) := (blk_cell BK126.out 1).trans rfl; have hcz102_2 : w101.cell? ⟨gb126, 2, none⟩ = some (.int .i64 0) := (blk_cell BK126.out 2).trans rfl; have hcz102_3 : w101.cell? ⟨gb126, 3, none⟩ = some (.int .i64 0) := (blk_cell BK126.out 3).trans rfl; have hcz102_4 : w101.cell? ⟨gb126, 4, none⟩ = some (.int .i64 0) := (blk_cell BK126.out 4).trans rfl; have hcz102_5 : w101.cell? ⟨gb126, 5, none⟩ = some (.int .i64 0) := (blk_cell BK126.out 5).trans rfl; have hcz102_6 : w101.cell? ⟨gb126, 6, none⟩ = some (.int .i64 0) := (blk_cell BK126.out 6).trans rfl; have hcz102_7 : w101.cell? ⟨gb126, 7, none⟩ = some (.int .i64 0) := (blk_cell BK126.out 7).trans rfl; have hfz102_0 := blk_frozen BK126.out 0; have hfz102_1 := blk_frozen BK126.out 1; have hfz102_2 := blk_frozen BK126.out 2; have hfz102_3 := blk_frozen BK126.out 3; have hfz102_4 := blk_frozen BK126.out 4; have hfz102_5 := blk_frozen BK126.out 5; have hfz102_6 := blk_frozen BK126.out 6; have hfz102_7 := blk_frozen BK126.out 7))
                 have n0_ : Aside0 (((((((((w101.setCell ⟨gb126, 0, none⟩ (.int .i64 t118)).setCell ⟨gb126, 1, none⟩ (.int .i64 t119)).setCell ⟨gb126, 2, none⟩ (.int .i64 t120)).setCell ⟨gb126, 3, none⟩ (.int .i64 t121)).setCell ⟨gb126, 4, none⟩ (.int .i64 t122)).setCell ⟨gb126, 5, none⟩ (.int .i64 t123)).setCell ⟨gb126, 6, none⟩ (.int .i64 t124)).setCell ⟨gb126, 7, none⟩ (.int .i64 t125)).heap[gb126]? = some (.cells #[.int .i64 t118, .int .i64 t119, .int .i64 t120, .int .i64 t121, .int .i64 t122, .int .i64 t123, .int .i64 t124, .int .i64 t125] 23 (0, 0))) := ⟨by (with_reducible repeat (first | refine blk_drewN ?_ _ | refine blk_drew ?_ | refine blk_alloc ?_ _)); refine blk_put (cs := #[.int .i64 t118, .int .i64 t119, .int .i64 t120, .int .i64 t121, .int .i64 t122, .int .i64 t123, .int .i64 t124, .int .i64 0]) ?_ 7 _ (by first | rfl | (simp; done)); (with_reducible repeat (first | refine blk_drewN ?_ _ | refine blk_drew ?_ | refine blk_alloc ?_ _)); refine blk_put (cs := #[.int .i64 t118, .int .i64 t119, .int .i64 t120, .int .i64 t121, .int .i64 t122, .int .i64 t123, .int .i64 0, .int .i64 0]) ?_ 6 _ (by first | rfl | (simp; done)); (with_reducible repeat (first | refine blk_drewN ?_ _ | refine blk_drew ?_ | refine blk_alloc ?_ _)); refine blk_put (cs := #[.int .i64 t118, .int .i64 t119, .int .i64 t120, .int .i64 t121, .int .i64 t122, .int .i64 0, .int .i64 0, .int .i64 0]) ?_ 5 _ (by first | rfl | (simp; done)); (with_reducible repeat (first | refine blk_drewN ?_ _ | refine blk_drew ?_ | refine blk_alloc ?_ _)); refine blk_put (cs := #[.int .i64 t118, .int .i64 t119, .int .i64 t120, .int .i64 t121, .int .i64 0, .int .i64 0, .int .i64 0, .int .i64 0]) ?_ 4 _ (by first | rfl | (simp; done)); (with_reducible repeat (first | refine blk_drewN ?_ _ | refine blk_drew ?_ | refine blk_alloc ?_ _)); refine blk_put (cs := #[.int .i64 t118, .int .i64 t119, .int .i64 t120, .int .i64 0, .int .i64 0, .int .i64 0, .int .i64 0, .int .i64 0]) ?_ 3 _ (by first | rfl | (simp; done)); (with_reducible repeat (first | refine blk_drewN ?_ _ | refine blk_drew ?_ | refine blk_alloc ?_ _)); refine blk_put (cs := #[.int .i64 t118, .int .i64 t119, .int .i64 0, .int .i64 0, .int .i64 0, .int .i64 0, .int .i64 0, .int .i64 0]) ?_ 2 _ (by first | rfl | (simp; done)); (with_reducible repeat (first | refine blk_drewN ?_ _ | refine blk_drew ?_ | refine blk_alloc ?_ _)); refine blk_put (cs := #[.int .i64 t118, .int .i64 0, .int .i64 0, .int .i64 0, .int .i64 0, .int .i64 0, .int .i64 0, .int .i64 0]) ?_ 1 _ (by first | rfl | (simp; done)); (with_reducible repeat (first | refine blk_drewN ?_ _ | refine blk_drew ?_ | refine blk_alloc ?_ _)); refine blk_put (cs := #[.int .i64 0, .int .i64 0, .int .i64 0, .int .i64 0, .int .i64 0, .int .i64 0, .int .i64 0, .int .i64 0]) ?_ 0 _ (by first | rfl | (simp; done)); (with_reducible repeat (first | refine blk_drewN ?_ _ | refine blk_drew ?_ | refine blk_alloc ?_ _)); exact BK126.out⟩
                 have n1_ : Aside0 (Below w.heap.size w ((((((((w101.setCell ⟨gb126, 0, none⟩ (.int .i64 t118)).setCell ⟨gb126, 1, none⟩ (.int .i64 t119)).setCell ⟨gb126, 2, none⟩ (.int .i64 t120)).setCell ⟨gb126, 3, none⟩ (.int .i64 t121)).setCell ⟨gb126, 4, none⟩ (.int .i64 t122)).setCell ⟨gb126, 5, none⟩ (.int .i64 t123)).setCell ⟨gb126, 6, none⟩ (.int .i64 t124)).setCell ⟨gb126, 7, none⟩ (.int .i64 t125))) := ⟨by repeat (first | (with_reducible first | exact HB.out | apply below_alloc | apply pw_below_drewN | apply below_drew1 | refine below_set ?_ GE126.out) | exact HB.out)⟩
                 (try clear BK126)
                 (try clear HB)
                 generalize ((((((((w101.setCell ⟨gb126, 0, none⟩ (.int .i64 t118)).setCell ⟨gb126, 1, none⟩ (.int .i64 t119)).setCell ⟨gb126, 2, none⟩ (.int .i64 t120)).setCell ⟨gb126, 3, none⟩ (.int .i64 t121)).setCell ⟨gb126, 4, none⟩ (.int .i64 t122)).setCell ⟨gb126, 5, none⟩ (.int .i64 t123)).setCell ⟨gb126, 6, none⟩ (.int .i64 t124)).setCell ⟨gb126, 7, none⟩ (.int .i64 t125)) = w103 at n0_ n1_ ⊢
                 have BK126 := n0_
                 have HB := n1_
                 clear n0_ n1_
                 have n0_ := Aside0.mk (blk_drew BK126.out)
                 have n1_ := Aside0.mk (below_drew1 HB.out)
                 clear BK126
                 clear HB
                 have BK126 := n0_
                 have HB := n1_
                 clear n0_ n1_
                 refine start_ (n := 15) (S := fun w' => w'.cell? ⟨gb126, 0, none⟩ = some (.int .i64 t118) ∧ w'.cell? ⟨gb126, 1, none⟩ = some (.int .i64 t119) ∧ w'.cell? ⟨gb126, 2, none⟩ = some (.int .i64 t120) ∧ w'.cell? ⟨gb126, 3, none⟩ = some (.int .i64 t121) ∧ w'.cell? ⟨gb126, 4, none⟩ = some (.int .i64 t122) ∧ w'.cell? ⟨gb126, 5, none⟩ = some (.int .i64 t123) ∧ w'.cell? ⟨gb126, 6, none⟩ = some (.int .i64 t124) ∧ w'.cell? ⟨gb126, 7, none⟩ = some (.int .i64 t125)) (ds := []) #[false, false, false, false, false, false, false, false, false, false, false, false, false, false, false] (by kernel_rfl) rfl rfl ⟨(blk_cell BK126.out 0).trans rfl, (blk_cell BK126.out 1).trans rfl, (blk_cell BK126.out 2).trans rfl, (blk_cell BK126.out 3).trans rfl, (blk_cell BK126.out 4).trans rfl, (blk_cell BK126.out 5).trans rfl, (blk_cell BK126.out 6).trans rfl, (blk_cell BK126.out 7).trans rfl⟩ (fun hHeld => ?_); refine with_tabW domesdayref05_One.tab26 domesdayref05_One.bits26 (fun HT_ HW_ => ?_)
                 generalize w103.drew = w104 at BK126 HB hHeld ⊢
                 refine pure_ (i := 0) (N := some 80) (v := ?_) (a' := ?_) #[true, false, false, false, false, false, false, false, false, false, false, false, false, false, false] rfl rfl (any_of HT_.out (by kernel_rfl)) (fun _ _ _ h => h) (Or.inl ⟨by rfl, ?_⟩) ?_ ?_
                 rotate_left
                 ·intro w'
                  go_simp
                  with_reducible rfl
                 rotate_left
                 ·simp only [Act.put, List.setIfInBounds_toArray, List.set_cons_zero, List.set_cons_succ, i64_w, i32_w]
                  rfl
                 refine pure_ (i := 4) (N := some 84) (v := ?_) (a' := ?_) #[true, false, false, false, true, false, false, false, false, false, false, false, false, false, false] rfl rfl (any_of HT_.out (by kernel_rfl)) (fun _ _ _ h => h) (Or.inl ⟨by rfl, ?_⟩) ?_ ?_
                 rotate_left
                 ·intro w'
                  go_simp
                  with_reducible rfl
                 rotate_left
                 ·simp only [Act.put, List.setIfInBounds_toArray, List.set_cons_zero, List.set_cons_succ, i64_w, i32_w]
                  rfl
                 refine pure_ (i := 9) (N := some 89) (v := ?_) (a' := ?_) #[true, false, false, false, true, false, false, false, false, true, false, false, false, false, false] rfl rfl (any_of HT_.out (by kernel_rfl)) (fun _ _ _ h => h) (Or.inl ⟨by rfl, ?_⟩) ?_ ?_
                 rotate_left
                 ·intro w'
                  go_simp
                  with_reducible rfl
                 rotate_left
                 ·simp only [Act.put, List.setIfInBounds_toArray, List.set_cons_zero, List.set_cons_succ, i64_w, i32_w]
                  rfl
                 refine take_ (i := 1) (N := some 81) (v := ?_) (a' := ?_) #[true, true, false, false, true, false, false, false, false, true, false, false, false, false, false] rfl rfl (take_ofW HT_.out HW_.out (by kernel_rfl)) (fun _ _ _ h => h) (Or.inl ⟨by rfl, ?_⟩) hHeld ?_ ?_
                 rotate_left
                 ·rintro w' ⟨s0, s1, s2, s3, s4, s5, s6, s7⟩
                  go_simp
                  with_reducible rfl
                 rotate_left
                 ·simp only [Act.put, List.setIfInBounds_toArray, List.set_cons_zero, List.set_cons_succ, i64_w, i32_w]
                  rfl
                 refine take_ (i := 5) (N := some 85) (v := ?_) (a' := ?_) #[true, true, false, false, true, true, false, false, false, true, false, false, false, false, false] rfl rfl (take_ofW HT_.out HW_.out (by kernel_rfl)) (fun _ _ _ h => h) (Or.inl ⟨by rfl, ?_⟩) hHeld ?_ ?_
                 rotate_left
                 ·rintro w' ⟨s0, s1, s2, s3, s4, s5, s6, s7⟩
                  go_simp
                  with_reducible rfl
                 rotate_left
                 ·simp only [Act.put, List.setIfInBounds_toArray, List.set_cons_zero, List.set_cons_succ, i64_w, i32_w]
                  rfl
                 refine take_ (i := 10) (N := some 90) (v := ?_) (a' := ?_) #[true, true, false, false, true, true, false, false, false, true, true, false, false, false, false] rfl rfl (take_ofW HT_.out HW_.out (by kernel_rfl)) (fun _ _ _ h => h) (Or.inl ⟨by rfl, ?_⟩) hHeld ?_ ?_
                 rotate_left
                 ·rintro w' ⟨s0, s1, s2, s3, s4, s5, s6, s7⟩
                  go_simp
                  with_reducible rfl
                 rotate_left
                 ·simp only [Act.put, List.setIfInBounds_toArray, List.set_cons_zero, List.set_cons_succ, i64_w, i32_w]
                  rfl
                 refine one_ (i := 2) (N := some 82) #[true, true, true, false, true, true, false, false, false, true, true, false, false, false, false] rfl rfl (one_of HT_.out (by kernel_rfl)) (by decide) (fun K hK => ?_)
                 refine goes_ Tryd.func32 (by kernel_rfl) rfl #[.int .i64 t118] (by rfl) rfl rfl (by (try simp only [List.map_toArray, List.map_cons, List.map_nil]); first | done | rfl | (simp only [List.length_drop, List.length_take]; rfl)) ?_
                 with_reducible refine (domesdayref01_Dec.calls k t118 t138 _ A93.out).mono ?_
                 rintro e w' ⟨rfl, ⟨nd, rfl⟩⟩
                 refine ⟨_, rfl, ?_⟩
                 refine hK.out _ _ ⟨(blk_cell BK126.out 0).trans rfl, (blk_cell BK126.out 1).trans rfl, (blk_cell BK126.out 2).trans rfl, (blk_cell BK126.out 3).trans rfl, (blk_cell BK126.out 4).trans rfl, (blk_cell BK126.out 5).trans rfl, (blk_cell BK126.out 6).trans rfl, (blk_cell BK126.out 7).trans rfl⟩ (fun hHeld => ?_)
                 clear hK K
                 refine norm_ (a' := ?_) ?_ ?_
                 rotate_left
                 ·show Act.put _ (some 82) _ = _
                  simp only [Act.put, List.setIfInBounds_toArray, List.set_cons_zero, List.set_cons_succ, i64_w, i32_w]
                  rfl
                 refine pure_ (i := 3) (N := some 83) (v := ?_) (a' := ?_) #[true, true, true, true, true, true, false, false, false, true, true, false, false, false, false] rfl rfl (any_of HT_.out (by kernel_rfl)) (fun _ _ _ h => h) (Or.inl ⟨by rfl, ?_⟩) ?_ ?_
                 rotate_left
                 ·intro w'
                  go_simp
                  with_reducible rfl
                 rotate_left
                 ·simp only [Act.put, List.setIfInBounds_toArray, List.set_cons_zero, List.set_cons_succ, i64_w, i32_w]
                  rfl
                 refine one_ (i := 6) (N := some 86) #[true, true, true, true, true, true, true, false, false, true, true, false, false, false, false] rfl rfl (one_of HT_.out (by kernel_rfl)) (by decide) (fun K hK => ?_)
                 refine goes_ Tryd.func33 (by kernel_rfl) rfl #[.int .i64 t119] (by rfl) rfl rfl (by (try simp only [List.map_toArray, List.map_cons, List.map_nil]); first | done | rfl | (simp only [List.length_drop, List.length_take]; rfl)) ?_
                 with_reducible refine (domesdayref05_two.calls t119 t139 _ A95.out).mono ?_
                 rintro e w105 ⟨rfl, hb⟩
                 refine ⟨_, rfl, ?_⟩
                 have n0_ := Aside0.mk (blk_below (g := gb126) (o := .cells #[.int .i64 t118, .int .i64 t119, .int .i64 t120, .int .i64 t121, .int .i64 t122, .int .i64 t123, .int .i64 t124, .int .i64 t125] 23 (0, 0)) (by (with_reducible repeat (first | refine blk_drewN ?_ _ | refine blk_drew ?_ | refine blk_alloc ?_ _)); exact BK126.out) hb)
                 have n1_ := Aside0.mk (below_step (by repeat (first | (with_reducible first | exact HB.out | apply below_alloc | apply pw_below_drewN | apply below_drew1 | refine below_set ?_ GE126.out) | exact HB.out)) hb)
                 clear BK126
                 clear HB
                 have BK126 := n0_
                 have HB := n1_
                 clear n0_ n1_
                 (try clear hb)
                 (try clear hb2)
                 (try clear hk)
                 (try clear hi)
                 refine hK.out _ _ ⟨(blk_cell BK126.out 0).trans rfl, (blk_cell BK126.out 1).trans rfl, (blk_cell BK126.out 2).trans rfl, (blk_cell BK126.out 3).trans rfl, (blk_cell BK126.out 4).trans rfl, (blk_cell BK126.out 5).trans rfl, (blk_cell BK126.out 6).trans rfl, (blk_cell BK126.out 7).trans rfl⟩ (fun hHeld => ?_)
                 clear hK K
                 refine norm_ (a' := ?_) ?_ ?_
                 rotate_left
                 ·show Act.put _ (some 86) _ = _
                  simp only [Act.put, List.setIfInBounds_toArray, List.set_cons_zero, List.set_cons_succ, i64_w, i32_w]
                  rfl
                 refine pure_ (i := 7) (N := some 87) (v := ?_) (a' := ?_) #[true, true, true, true, true, true, true, true, false, true, true, false, false, false, false] rfl rfl (any_of HT_.out (by kernel_rfl)) (fun _ _ _ h => h) (Or.inl ⟨by rfl, ?_⟩) ?_ ?_
                 rotate_left
                 ·intro w'
                  go_simp
                  with_reducible rfl
                 rotate_left
                 ·simp only [Act.put, List.setIfInBounds_toArray, List.set_cons_zero, List.set_cons_succ, i64_w, i32_w]
                  rfl
                 refine pure_ (i := 8) (N := some 88) (v := ?_) (a' := ?_) #[true, true, true, true, true, true, true, true, true, true, true, false, false, false, false] rfl rfl (any_of HT_.out (by kernel_rfl)) (fun _ _ _ h => h) (Or.inl ⟨by rfl, ?_⟩) ?_ ?_
                 rotate_left
                 ·intro w'
                  go_simp
                  with_reducible rfl
                 rotate_left
                 ·simp only [Act.put, List.setIfInBounds_toArray, List.set_cons_zero, List.set_cons_succ, i64_w, i32_w]
                  rfl
                 refine one_ (i := 11) (N := some 91) #[true, true, true, true, true, true, true, true, true, true, true, true, false, false, false] rfl rfl (one_of HT_.out (by kernel_rfl)) (by decide) (fun K hK => ?_)
                 refine goes_ Tryd.func33 (by kernel_rfl) rfl #[.int .i64 t120] (by rfl) rfl rfl (by (try simp only [List.map_toArray, List.map_cons, List.map_nil]); first | done | rfl | (simp only [List.length_drop, List.length_take]; rfl)) ?_
                 with_reducible refine (domesdayref05_two.calls t120 t140 _ A98.out).mono ?_
                 rintro e w106 ⟨rfl, hb⟩
                 refine ⟨_, rfl, ?_⟩
                 have n0_ := Aside0.mk (blk_below (g := gb126) (o := .cells #[.int .i64 t118, .int .i64 t119, .int .i64 t120, .int .i64 t121, .int .i64 t122, .int .i64 t123, .int .i64 t124, .int .i64 t125] 23 (0, 0)) (by (with_reducible repeat (first | refine blk_drewN ?_ _ | refine blk_drew ?_ | refine blk_alloc ?_ _)); exact BK126.out) hb)
                 have n1_ := Aside0.mk (below_step (by repeat (first | (with_reducible first | exact HB.out | apply below_alloc | apply pw_below_drewN | apply below_drew1 | refine below_set ?_ GE126.out) | exact HB.out)) hb)
                 clear BK126
                 clear HB
                 have BK126 := n0_
                 have HB := n1_
                 clear n0_ n1_
                 (try clear hb)
                 (try clear hb2)
                 (try clear hk)
                 (try clear hi)
                 refine hK.out _ _ ⟨(blk_cell BK126.out 0).trans rfl, (blk_cell BK126.out 1).trans rfl, (blk_cell BK126.out 2).trans rfl, (blk_cell BK126.out 3).trans rfl, (blk_cell BK126.out 4).trans rfl, (blk_cell BK126.out 5).trans rfl, (blk_cell BK126.out 6).trans rfl, (blk_cell BK126.out 7).trans rfl⟩ (fun hHeld => ?_)
                 clear hK K
                 refine norm_ (a' := ?_) ?_ ?_
                 rotate_left
                 ·show Act.put _ (some 91) _ = _
                  simp only [Act.put, List.setIfInBounds_toArray, List.set_cons_zero, List.set_cons_succ, i64_w, i32_w]
                  rfl
                 refine pure_ (i := 12) (N := some 92) (v := ?_) (a' := ?_) #[true, true, true, true, true, true, true, true, true, true, true, true, true, false, false] rfl rfl (any_of HT_.out (by kernel_rfl)) (fun _ _ _ h => h) (Or.inl ⟨by rfl, ?_⟩) ?_ ?_
                 rotate_left
                 ·intro w'
                  go_simp
                  with_reducible rfl
                 rotate_left
                 ·simp only [Act.put, List.setIfInBounds_toArray, List.set_cons_zero, List.set_cons_succ, i64_w, i32_w]
                  rfl
                 refine pure_ (i := 13) (N := some 6) (v := ?_) (a' := ?_) #[true, true, true, true, true, true, true, true, true, true, true, true, true, true, false] rfl rfl (any_of HT_.out (by kernel_rfl)) (fun _ _ _ h => h) (Or.inl ⟨by rfl, ?_⟩) ?_ ?_
                 rotate_left
                 ·intro w'
                  go_simp
                  with_reducible rfl
                 rotate_left
                 ·simp only [Act.put, List.setIfInBounds_toArray, List.set_cons_zero, List.set_cons_succ, i64_w, i32_w]
                  rfl
                 refine pure_ (i := 14) (N := some 7) (v := ?_) (a' := ?_) #[true, true, true, true, true, true, true, true, true, true, true, true, true, true, true] rfl rfl (any_of HT_.out (by kernel_rfl)) (fun _ _ _ h => h) (Or.inl ⟨by rfl, ?_⟩) ?_ ?_
                 rotate_left
                 ·intro w'
                  go_simp
                  with_reducible rfl
                 rotate_left
                 ·simp only [Act.put, List.setIfInBounds_toArray, List.set_cons_zero, List.set_cons_succ, i64_w, i32_w]
                  rfl
                 refine done_ (done_of HT_.out (by kernel_rfl)) ?_
                 try go_wp2
                 go_ret2
                 exact ⟨by first | rfl | (simp [errW_none, errW_some] <;> rfl) | (simp [*, errW_none, errW_some] <;> rfl), by repeat (first | (with_reducible first | exact HB.out | apply below_alloc | apply pw_below_drewN | apply below_drew1 | refine below_set ?_ GE126.out) | exact HB.out)⟩
                ·rw [if_neg c99] at H
                 exact absurd H (by simp)
               ·rw [if_neg c97] at H
                exact absurd H (by simp)
              ·rw [if_neg c96] at H
               exact absurd H (by simp)
             ·rw [if_neg c94] at H
              exact absurd H (by simp)
            ·rw [if_neg c92] at H
             have c92b0 : (a0 == 70) = false := beq_eq_false_iff_ne.mpr c92
             have c92b1 : (a0 != 70) = true := bne_iff_ne.mpr c92
             by_cases c107 : a0 = 84
             ·rw [if_pos c107] at H
              have c107b0 : (a0 == 84) = true := beq_iff_eq.mpr c107
              have c107b1 : (a0 != 84) = false := bne_eq_false_iff_eq.mpr c107
              clear c107
              replace H := Option.bind_eq_some_iff.mp H
              obtain ⟨t141, A1080, H⟩ := H
              replace H : (if t141.size + 1 ≤ 9223372036854775807 then ((domesdayref05_two.f t122).bind fun t142 => (if t141.size + 1 + t142.size ≤ 9223372036854775807 then (if t141.size + 1 + t142.size + 1 ≤ 9223372036854775807 then ((domesdayref05_two.f t123).bind fun t143 => (if t141.size + 1 + t142.size + 1 + t143.size ≤ 9223372036854775807 then (some ((((t141 ++ (⟨#[58]⟩ : ByteArray)) ++ t142) ++ (⟨#[58]⟩ : ByteArray)) ++ t143, true)) else (none))) else (none)) else (none))) else (none)) = some (r1, r2) := H
              have A108 := Aside0.mk A1080
              clear A1080
              by_cases c109 : t141.size + 1 ≤ 9223372036854775807
              ·rw [if_pos c109] at H
               have c109b0 := eq_true c109
               have c109b1 : decide (t141.size + 1 ≤ 9223372036854775807) = true := decide_eq_true c109
               try have c109b2 : (9223372036854775807 < t141.size + 1) = False := eq_false (Nat.not_lt.2 c109)
               replace H := Option.bind_eq_some_iff.mp H
               obtain ⟨t142, A1100, H⟩ := H
               replace H : (if t141.size + 1 + t142.size ≤ 9223372036854775807 then (if t141.size + 1 + t142.size + 1 ≤ 9223372036854775807 then ((domesdayref05_two.f t123).bind fun t143 => (if t141.size + 1 + t142.size + 1 + t143.size ≤ 9223372036854775807 then (some ((((t141 ++ (⟨#[58]⟩ : ByteArray)) ++ t142) ++ (⟨#[58]⟩ : ByteArray)) ++ t143, true)) else (none))) else (none)) else (none)) = some (r1, r2) := H
               have A110 := Aside0.mk A1100
               clear A1100
               by_cases c111 : t141.size + 1 + t142.size ≤ 9223372036854775807
               ·rw [if_pos c111] at H
                have c111b0 := eq_true c111
                have c111b1 : decide (t141.size + 1 + t142.size ≤ 9223372036854775807) = true := decide_eq_true c111
                try have c111b2 : (9223372036854775807 < t141.size + 1 + t142.size) = False := eq_false (Nat.not_lt.2 c111)
                by_cases c112 : t141.size + 1 + t142.size + 1 ≤ 9223372036854775807
                ·rw [if_pos c112] at H
                 have c112b0 := eq_true c112
                 have c112b1 : decide (t141.size + 1 + t142.size + 1 ≤ 9223372036854775807) = true := decide_eq_true c112
                 try have c112b2 : (9223372036854775807 < t141.size + 1 + t142.size + 1) = False := eq_false (Nat.not_lt.2 c112)
                 replace H := Option.bind_eq_some_iff.mp H
                 obtain ⟨t143, A1130, H⟩ := H
                 replace H : (if t141.size + 1 + t142.size + 1 + t143.size ≤ 9223372036854775807 then (some ((((t141 ++ (⟨#[58]⟩ : ByteArray)) ++ t142) ++ (⟨#[58]⟩ : ByteArray)) ++ t143, true)) else (none)) = some (r1, r2) := H
                 have A113 := Aside0.mk A1130
                 clear A1130
                 by_cases c114 : t141.size + 1 + t142.size + 1 + t143.size ≤ 9223372036854775807
                 ·rw [if_pos c114] at H
                  have c114b0 := eq_true c114
                  have c114b1 : decide (t141.size + 1 + t142.size + 1 + t143.size ≤ 9223372036854775807) = true := decide_eq_true c114
                  try have c114b2 : (9223372036854775807 < t141.size + 1 + t142.size + 1 + t143.size) = False := eq_false (Nat.not_lt.2 c114)
                  simp only [Option.some.injEq, Prod.mk.injEq] at H
                  obtain ⟨rfl, rfl⟩ := H
                  go_enter Tryd.func25, Tryd.ntmps25
                  try go_wp2_with (first | ((with_reducible refine gate_callee (f := 31) rfl ?_); refine goesL_ (some 14) rfl rfl Tryd.func31 (by kernel_rfl) rfl #[.int .i64 a1, .int .i64 a2] rfl (by (try simp only [List.map_toArray, List.map_cons, List.map_nil]); first | done | rfl | (simp only [List.length_drop, List.length_take]; rfl)) ?_; (with_reducible refine (domesdayref04_Of.calls k a1 a2 t118 t119 t120 t121 t122 t123 t124 t125 _ A4.out).mono ?_); rintro e w115 ⟨rfl, hb⟩; refine ⟨_, rfl, ?_⟩; have n0_ := Aside0.mk (below_step (by repeat (first | (with_reducible first | exact HB.out | apply below_alloc | apply pw_below_drewN | apply below_drew1) | exact HB.out)) hb); clear HB; have HB := n0_; clear n0_; (try clear hb); (try clear hb2); (try clear hk); (try clear hi)) | ((with_reducible refine gate_dst (N := 8) rfl ?_); refine box_event ?hg (N := 8) ?hd (cs := #[.int .i64 0, .int .i64 0, .int .i64 0, .int .i64 0, .int .i64 0, .int .i64 0, .int .i64 0, .int .i64 0]) (t := 23) ?hr ?_; (case hd => rfl); (case hg => rfl); (case hr => first | (go_simp; done) | (go_simp; rfl)); intro gb126 hg w116 hbox hb; have n0_ := Aside0.mk (below_step (by repeat (first | (with_reducible first | exact HB.out | apply below_alloc | apply pw_below_drewN | apply below_drew1) | exact HB.out)) hb); have n1_ := Aside0.mk (hbox); have n2_ := Aside0.mk ((by rw [hg]; exact (below_size (by repeat (first | (with_reducible first | exact HB.out | apply below_alloc | apply pw_below_drewN | apply below_drew1) | exact HB.out))) : w.heap.size ≤ gb126)); have n3_ := Aside0.mk ((by rw [hg]; exact (below_size (by repeat (first | (with_reducible first | exact HB.out | apply below_alloc | apply pw_below_drewN | apply below_drew1) | exact HB.out))) : w.heap.size ≤ gb126)); clear HB; have HB := n0_; have BK126 := n1_; have GW126 := n2_; have GE126 := n3_; clear n0_ n1_ n2_ n3_; clear hb hbox hg; have hcz117_0 : w116.cell? ⟨gb126, 0, none⟩ = some (.int .i64 0) := (blk_cell BK126.out 0).trans rfl; have hcz117_1 : w116.cell? ⟨gb126, 1, none⟩ = some (.int .i64 0) := (blk_cell BK126.out 1).trans rfl; have hcz117_2 : w116.cell? ⟨gb126, 2, none⟩ = some (.int .i64 0) := (blk_cell BK126.out 2).trans rfl; have hcz117_3 : w116.cell? ⟨gb126, 3, none⟩ = some (.int .i64 0) := (blk_cell BK126.out 3).trans rfl; have hcz117_4 : w116.cell? ⟨gb126, 4, none⟩ = some (.int .i64 0) := (blk_cell BK126.out 4).trans rfl; have hcz117_5 : w116.cell? ⟨gb126, 5, none⟩ = some (.int .i64 0) := (blk_cell BK126.out 5).trans rfl; have hcz117_6 : w116.cell? ⟨gb126, 6, none⟩ = some (.int .i64 0) := (blk_cell BK126.out 6).trans rfl; have hcz117_7 : w116.cell? ⟨gb126, 7, none⟩ = some (.int .i64 0) := (blk_cell BK126.out 7).trans rfl; have hfz117_0 := blk_frozen BK126.out 0; have hfz117_1 := blk_frozen BK126.out 1; have hfz117_2 := blk_frozen BK126.out 2; have hfz117_3 := blk_frozen BK126.out 3; have hfz117_4 := blk_frozen BK126.out 4; have hfz117_5 := blk_frozen BK126.out 5; have hfz117_6 := blk_frozen BK126.out 6; have hfz117_7 := blk_frozen BK126.out 7))
                  have n0_ : Aside0 (((((((((w116.setCell ⟨gb126, 0, none⟩ (.int .i64 t118)).setCell ⟨gb126, 1, none⟩ (.int .i64 t119)).setCell ⟨gb126, 2, none⟩ (.int .i64 t120)).setCell ⟨gb126, 3, none⟩ (.int .i64 t121)).setCell ⟨gb126, 4, none⟩ (.int .i64 t122)).setCell ⟨gb126, 5, none⟩ (.int .i64 t123)).setCell ⟨gb126, 6, none⟩ (.int .i64 t124)).setCell ⟨gb126, 7, none⟩ (.int .i64 t125)).heap[gb126]? = some (.cells #[.int .i64 t118, .int .i64 t119, .int .i64 t120, .int .i64 t121, .int .i64 t122, .int .i64 t123, .int .i64 t124, .int .i64 t125] 23 (0, 0))) := ⟨by (with_reducible repeat (first | refine blk_drewN ?_ _ | refine blk_drew ?_ | refine blk_alloc ?_ _)); refine blk_put (cs := #[.int .i64 t118, .int .i64 t119, .int .i64 t120, .int .i64 t121, .int .i64 t122, .int .i64 t123, .int .i64 t124, .int .i64 0]) ?_ 7 _ (by first | rfl | (simp; done)); (with_reducible repeat (first | refine blk_drewN ?_ _ | refine blk_drew ?_ | refine blk_alloc ?_ _)); refine blk_put (cs := #[.int .i64 t118, .int .i64 t119, .int .i64 t120, .int .i64 t121, .int .i64 t122, .int .i64 t123, .int .i64 0, .int .i64 0]) ?_ 6 _ (by first | rfl | (simp; done)); (with_reducible repeat (first | refine blk_drewN ?_ _ | refine blk_drew ?_ | refine blk_alloc ?_ _)); refine blk_put (cs := #[.int .i64 t118, .int .i64 t119, .int .i64 t120, .int .i64 t121, .int .i64 t122, .int .i64 0, .int .i64 0, .int .i64 0]) ?_ 5 _ (by first | rfl | (simp; done)); (with_reducible repeat (first | refine blk_drewN ?_ _ | refine blk_drew ?_ | refine blk_alloc ?_ _)); refine blk_put (cs := #[.int .i64 t118, .int .i64 t119, .int .i64 t120, .int .i64 t121, .int .i64 0, .int .i64 0, .int .i64 0, .int .i64 0]) ?_ 4 _ (by first | rfl | (simp; done)); (with_reducible repeat (first | refine blk_drewN ?_ _ | refine blk_drew ?_ | refine blk_alloc ?_ _)); refine blk_put (cs := #[.int .i64 t118, .int .i64 t119, .int .i64 t120, .int .i64 0, .int .i64 0, .int .i64 0, .int .i64 0, .int .i64 0]) ?_ 3 _ (by first | rfl | (simp; done)); (with_reducible repeat (first | refine blk_drewN ?_ _ | refine blk_drew ?_ | refine blk_alloc ?_ _)); refine blk_put (cs := #[.int .i64 t118, .int .i64 t119, .int .i64 0, .int .i64 0, .int .i64 0, .int .i64 0, .int .i64 0, .int .i64 0]) ?_ 2 _ (by first | rfl | (simp; done)); (with_reducible repeat (first | refine blk_drewN ?_ _ | refine blk_drew ?_ | refine blk_alloc ?_ _)); refine blk_put (cs := #[.int .i64 t118, .int .i64 0, .int .i64 0, .int .i64 0, .int .i64 0, .int .i64 0, .int .i64 0, .int .i64 0]) ?_ 1 _ (by first | rfl | (simp; done)); (with_reducible repeat (first | refine blk_drewN ?_ _ | refine blk_drew ?_ | refine blk_alloc ?_ _)); refine blk_put (cs := #[.int .i64 0, .int .i64 0, .int .i64 0, .int .i64 0, .int .i64 0, .int .i64 0, .int .i64 0, .int .i64 0]) ?_ 0 _ (by first | rfl | (simp; done)); (with_reducible repeat (first | refine blk_drewN ?_ _ | refine blk_drew ?_ | refine blk_alloc ?_ _)); exact BK126.out⟩
                  have n1_ : Aside0 (Below w.heap.size w ((((((((w116.setCell ⟨gb126, 0, none⟩ (.int .i64 t118)).setCell ⟨gb126, 1, none⟩ (.int .i64 t119)).setCell ⟨gb126, 2, none⟩ (.int .i64 t120)).setCell ⟨gb126, 3, none⟩ (.int .i64 t121)).setCell ⟨gb126, 4, none⟩ (.int .i64 t122)).setCell ⟨gb126, 5, none⟩ (.int .i64 t123)).setCell ⟨gb126, 6, none⟩ (.int .i64 t124)).setCell ⟨gb126, 7, none⟩ (.int .i64 t125))) := ⟨by repeat (first | (with_reducible first | exact HB.out | apply below_alloc | apply pw_below_drewN | apply below_drew1 | refine below_set ?_ GE126.out) | exact HB.out)⟩
                  (try clear BK126)
                  (try clear HB)
                  generalize ((((((((w116.setCell ⟨gb126, 0, none⟩ (.int .i64 t118)).setCell ⟨gb126, 1, none⟩ (.int .i64 t119)).setCell ⟨gb126, 2, none⟩ (.int .i64 t120)).setCell ⟨gb126, 3, none⟩ (.int .i64 t121)).setCell ⟨gb126, 4, none⟩ (.int .i64 t122)).setCell ⟨gb126, 5, none⟩ (.int .i64 t123)).setCell ⟨gb126, 6, none⟩ (.int .i64 t124)).setCell ⟨gb126, 7, none⟩ (.int .i64 t125)) = w118 at n0_ n1_ ⊢
                  have BK126 := n0_
                  have HB := n1_
                  clear n0_ n1_
                  have n0_ := Aside0.mk (blk_drew BK126.out)
                  have n1_ := Aside0.mk (below_drew1 HB.out)
                  clear BK126
                  clear HB
                  have BK126 := n0_
                  have HB := n1_
                  clear n0_ n1_
                  refine start_ (n := 15) (S := fun w' => w'.cell? ⟨gb126, 0, none⟩ = some (.int .i64 t118) ∧ w'.cell? ⟨gb126, 1, none⟩ = some (.int .i64 t119) ∧ w'.cell? ⟨gb126, 2, none⟩ = some (.int .i64 t120) ∧ w'.cell? ⟨gb126, 3, none⟩ = some (.int .i64 t121) ∧ w'.cell? ⟨gb126, 4, none⟩ = some (.int .i64 t122) ∧ w'.cell? ⟨gb126, 5, none⟩ = some (.int .i64 t123) ∧ w'.cell? ⟨gb126, 6, none⟩ = some (.int .i64 t124) ∧ w'.cell? ⟨gb126, 7, none⟩ = some (.int .i64 t125)) (ds := []) #[false, false, false, false, false, false, false, false, false, false, false, false, false, false, false] (by kernel_rfl) rfl rfl ⟨(blk_cell BK126.out 0).trans rfl, (blk_cell BK126.out 1).trans rfl, (blk_cell BK126.out 2).trans rfl, (blk_cell BK126.out 3).trans rfl, (blk_cell BK126.out 4).trans rfl, (blk_cell BK126.out 5).trans rfl, (blk_cell BK126.out 6).trans rfl, (blk_cell BK126.out 7).trans rfl⟩ (fun hHeld => ?_); refine with_tabW domesdayref05_One.tab28 domesdayref05_One.bits28 (fun HT_ HW_ => ?_)
                  generalize w118.drew = w119 at BK126 HB hHeld ⊢
                  refine pure_ (i := 0) (N := some 95) (v := ?_) (a' := ?_) #[true, false, false, false, false, false, false, false, false, false, false, false, false, false, false] rfl rfl (any_of HT_.out (by kernel_rfl)) (fun _ _ _ h => h) (Or.inl ⟨by rfl, ?_⟩) ?_ ?_
                  rotate_left
                  ·intro w'
                   go_simp
                   with_reducible rfl
                  rotate_left
                  ·simp only [Act.put, List.setIfInBounds_toArray, List.set_cons_zero, List.set_cons_succ, i64_w, i32_w]
                   rfl
                  refine pure_ (i := 4) (N := some 99) (v := ?_) (a' := ?_) #[true, false, false, false, true, false, false, false, false, false, false, false, false, false, false] rfl rfl (any_of HT_.out (by kernel_rfl)) (fun _ _ _ h => h) (Or.inl ⟨by rfl, ?_⟩) ?_ ?_
                  rotate_left
                  ·intro w'
                   go_simp
                   with_reducible rfl
                  rotate_left
                  ·simp only [Act.put, List.setIfInBounds_toArray, List.set_cons_zero, List.set_cons_succ, i64_w, i32_w]
                   rfl
                  refine pure_ (i := 9) (N := some 104) (v := ?_) (a' := ?_) #[true, false, false, false, true, false, false, false, false, true, false, false, false, false, false] rfl rfl (any_of HT_.out (by kernel_rfl)) (fun _ _ _ h => h) (Or.inl ⟨by rfl, ?_⟩) ?_ ?_
                  rotate_left
                  ·intro w'
                   go_simp
                   with_reducible rfl
                  rotate_left
                  ·simp only [Act.put, List.setIfInBounds_toArray, List.set_cons_zero, List.set_cons_succ, i64_w, i32_w]
                   rfl
                  refine take_ (i := 1) (N := some 96) (v := ?_) (a' := ?_) #[true, true, false, false, true, false, false, false, false, true, false, false, false, false, false] rfl rfl (take_ofW HT_.out HW_.out (by kernel_rfl)) (fun _ _ _ h => h) (Or.inl ⟨by rfl, ?_⟩) hHeld ?_ ?_
                  rotate_left
                  ·rintro w' ⟨s0, s1, s2, s3, s4, s5, s6, s7⟩
                   go_simp
                   with_reducible rfl
                  rotate_left
                  ·simp only [Act.put, List.setIfInBounds_toArray, List.set_cons_zero, List.set_cons_succ, i64_w, i32_w]
                   rfl
                  refine take_ (i := 5) (N := some 100) (v := ?_) (a' := ?_) #[true, true, false, false, true, true, false, false, false, true, false, false, false, false, false] rfl rfl (take_ofW HT_.out HW_.out (by kernel_rfl)) (fun _ _ _ h => h) (Or.inl ⟨by rfl, ?_⟩) hHeld ?_ ?_
                  rotate_left
                  ·rintro w' ⟨s0, s1, s2, s3, s4, s5, s6, s7⟩
                   go_simp
                   with_reducible rfl
                  rotate_left
                  ·simp only [Act.put, List.setIfInBounds_toArray, List.set_cons_zero, List.set_cons_succ, i64_w, i32_w]
                   rfl
                  refine take_ (i := 10) (N := some 105) (v := ?_) (a' := ?_) #[true, true, false, false, true, true, false, false, false, true, true, false, false, false, false] rfl rfl (take_ofW HT_.out HW_.out (by kernel_rfl)) (fun _ _ _ h => h) (Or.inl ⟨by rfl, ?_⟩) hHeld ?_ ?_
                  rotate_left
                  ·rintro w' ⟨s0, s1, s2, s3, s4, s5, s6, s7⟩
                   go_simp
                   with_reducible rfl
                  rotate_left
                  ·simp only [Act.put, List.setIfInBounds_toArray, List.set_cons_zero, List.set_cons_succ, i64_w, i32_w]
                   rfl
                  refine one_ (i := 2) (N := some 97) #[true, true, true, false, true, true, false, false, false, true, true, false, false, false, false] rfl rfl (one_of HT_.out (by kernel_rfl)) (by decide) (fun K hK => ?_)
                  refine goes_ Tryd.func33 (by kernel_rfl) rfl #[.int .i64 t121] (by rfl) rfl rfl (by (try simp only [List.map_toArray, List.map_cons, List.map_nil]); first | done | rfl | (simp only [List.length_drop, List.length_take]; rfl)) ?_
                  with_reducible refine (domesdayref05_two.calls t121 t141 _ A108.out).mono ?_
                  rintro e w120 ⟨rfl, hb⟩
                  refine ⟨_, rfl, ?_⟩
                  have n0_ := Aside0.mk (blk_below (g := gb126) (o := .cells #[.int .i64 t118, .int .i64 t119, .int .i64 t120, .int .i64 t121, .int .i64 t122, .int .i64 t123, .int .i64 t124, .int .i64 t125] 23 (0, 0)) (by (with_reducible repeat (first | refine blk_drewN ?_ _ | refine blk_drew ?_ | refine blk_alloc ?_ _)); exact BK126.out) hb)
                  have n1_ := Aside0.mk (below_step (by repeat (first | (with_reducible first | exact HB.out | apply below_alloc | apply pw_below_drewN | apply below_drew1 | refine below_set ?_ GE126.out) | exact HB.out)) hb)
                  clear BK126
                  clear HB
                  have BK126 := n0_
                  have HB := n1_
                  clear n0_ n1_
                  (try clear hb)
                  (try clear hb2)
                  (try clear hk)
                  (try clear hi)
                  refine hK.out _ _ ⟨(blk_cell BK126.out 0).trans rfl, (blk_cell BK126.out 1).trans rfl, (blk_cell BK126.out 2).trans rfl, (blk_cell BK126.out 3).trans rfl, (blk_cell BK126.out 4).trans rfl, (blk_cell BK126.out 5).trans rfl, (blk_cell BK126.out 6).trans rfl, (blk_cell BK126.out 7).trans rfl⟩ (fun hHeld => ?_)
                  clear hK K
                  refine norm_ (a' := ?_) ?_ ?_
                  rotate_left
                  ·show Act.put _ (some 97) _ = _
                   simp only [Act.put, List.setIfInBounds_toArray, List.set_cons_zero, List.set_cons_succ, i64_w, i32_w]
                   rfl
                  refine pure_ (i := 3) (N := some 98) (v := ?_) (a' := ?_) #[true, true, true, true, true, true, false, false, false, true, true, false, false, false, false] rfl rfl (any_of HT_.out (by kernel_rfl)) (fun _ _ _ h => h) (Or.inl ⟨by rfl, ?_⟩) ?_ ?_
                  rotate_left
                  ·intro w'
                   go_simp
                   with_reducible rfl
                  rotate_left
                  ·simp only [Act.put, List.setIfInBounds_toArray, List.set_cons_zero, List.set_cons_succ, i64_w, i32_w]
                   rfl
                  refine one_ (i := 6) (N := some 101) #[true, true, true, true, true, true, true, false, false, true, true, false, false, false, false] rfl rfl (one_of HT_.out (by kernel_rfl)) (by decide) (fun K hK => ?_)
                  refine goes_ Tryd.func33 (by kernel_rfl) rfl #[.int .i64 t122] (by rfl) rfl rfl (by (try simp only [List.map_toArray, List.map_cons, List.map_nil]); first | done | rfl | (simp only [List.length_drop, List.length_take]; rfl)) ?_
                  with_reducible refine (domesdayref05_two.calls t122 t142 _ A110.out).mono ?_
                  rintro e w121 ⟨rfl, hb⟩
                  refine ⟨_, rfl, ?_⟩
                  have n0_ := Aside0.mk (blk_below (g := gb126) (o := .cells #[.int .i64 t118, .int .i64 t119, .int .i64 t120, .int .i64 t121, .int .i64 t122, .int .i64 t123, .int .i64 t124, .int .i64 t125] 23 (0, 0)) (by (with_reducible repeat (first | refine blk_drewN ?_ _ | refine blk_drew ?_ | refine blk_alloc ?_ _)); exact BK126.out) hb)
                  have n1_ := Aside0.mk (below_step (by repeat (first | (with_reducible first | exact HB.out | apply below_alloc | apply pw_below_drewN | apply below_drew1 | refine below_set ?_ GE126.out) | exact HB.out)) hb)
                  clear BK126
                  clear HB
                  have BK126 := n0_
                  have HB := n1_
                  clear n0_ n1_
                  (try clear hb)
                  (try clear hb2)
                  (try clear hk)
                  (try clear hi)
                  refine hK.out _ _ ⟨(blk_cell BK126.out 0).trans rfl, (blk_cell BK126.out 1).trans rfl, (blk_cell BK126.out 2).trans rfl, (blk_cell BK126.out 3).trans rfl, (blk_cell BK126.out 4).trans rfl, (blk_cell BK126.out 5).trans rfl, (blk_cell BK126.out 6).trans rfl, (blk_cell BK126.out 7).trans rfl⟩ (fun hHeld => ?_)
                  clear hK K
                  refine norm_ (a' := ?_) ?_ ?_
                  rotate_left
                  ·show Act.put _ (some 101) _ = _
                   simp only [Act.put, List.setIfInBounds_toArray, List.set_cons_zero, List.set_cons_succ, i64_w, i32_w]
                   rfl
                  refine pure_ (i := 7) (N := some 102) (v := ?_) (a' := ?_) #[true, true, true, true, true, true, true, true, false, true, true, false, false, false, false] rfl rfl (any_of HT_.out (by kernel_rfl)) (fun _ _ _ h => h) (Or.inl ⟨by rfl, ?_⟩) ?_ ?_
                  rotate_left
                  ·intro w'
                   go_simp
                   with_reducible rfl
                  rotate_left
                  ·simp only [Act.put, List.setIfInBounds_toArray, List.set_cons_zero, List.set_cons_succ, i64_w, i32_w]
                   rfl
                  refine pure_ (i := 8) (N := some 103) (v := ?_) (a' := ?_) #[true, true, true, true, true, true, true, true, true, true, true, false, false, false, false] rfl rfl (any_of HT_.out (by kernel_rfl)) (fun _ _ _ h => h) (Or.inl ⟨by rfl, ?_⟩) ?_ ?_
                  rotate_left
                  ·intro w'
                   go_simp
                   with_reducible rfl
                  rotate_left
                  ·simp only [Act.put, List.setIfInBounds_toArray, List.set_cons_zero, List.set_cons_succ, i64_w, i32_w]
                   rfl
                  refine one_ (i := 11) (N := some 106) #[true, true, true, true, true, true, true, true, true, true, true, true, false, false, false] rfl rfl (one_of HT_.out (by kernel_rfl)) (by decide) (fun K hK => ?_)
                  refine goes_ Tryd.func33 (by kernel_rfl) rfl #[.int .i64 t123] (by rfl) rfl rfl (by (try simp only [List.map_toArray, List.map_cons, List.map_nil]); first | done | rfl | (simp only [List.length_drop, List.length_take]; rfl)) ?_
                  with_reducible refine (domesdayref05_two.calls t123 t143 _ A113.out).mono ?_
                  rintro e w122 ⟨rfl, hb⟩
                  refine ⟨_, rfl, ?_⟩
                  have n0_ := Aside0.mk (blk_below (g := gb126) (o := .cells #[.int .i64 t118, .int .i64 t119, .int .i64 t120, .int .i64 t121, .int .i64 t122, .int .i64 t123, .int .i64 t124, .int .i64 t125] 23 (0, 0)) (by (with_reducible repeat (first | refine blk_drewN ?_ _ | refine blk_drew ?_ | refine blk_alloc ?_ _)); exact BK126.out) hb)
                  have n1_ := Aside0.mk (below_step (by repeat (first | (with_reducible first | exact HB.out | apply below_alloc | apply pw_below_drewN | apply below_drew1 | refine below_set ?_ GE126.out) | exact HB.out)) hb)
                  clear BK126
                  clear HB
                  have BK126 := n0_
                  have HB := n1_
                  clear n0_ n1_
                  (try clear hb)
                  (try clear hb2)
                  (try clear hk)
                  (try clear hi)
                  refine hK.out _ _ ⟨(blk_cell BK126.out 0).trans rfl, (blk_cell BK126.out 1).trans rfl, (blk_cell BK126.out 2).trans rfl, (blk_cell BK126.out 3).trans rfl, (blk_cell BK126.out 4).trans rfl, (blk_cell BK126.out 5).trans rfl, (blk_cell BK126.out 6).trans rfl, (blk_cell BK126.out 7).trans rfl⟩ (fun hHeld => ?_)
                  clear hK K
                  refine norm_ (a' := ?_) ?_ ?_
                  rotate_left
                  ·show Act.put _ (some 106) _ = _
                   simp only [Act.put, List.setIfInBounds_toArray, List.set_cons_zero, List.set_cons_succ, i64_w, i32_w]
                   rfl
                  refine pure_ (i := 12) (N := some 107) (v := ?_) (a' := ?_) #[true, true, true, true, true, true, true, true, true, true, true, true, true, false, false] rfl rfl (any_of HT_.out (by kernel_rfl)) (fun _ _ _ h => h) (Or.inl ⟨by rfl, ?_⟩) ?_ ?_
                  rotate_left
                  ·intro w'
                   go_simp
                   with_reducible rfl
                  rotate_left
                  ·simp only [Act.put, List.setIfInBounds_toArray, List.set_cons_zero, List.set_cons_succ, i64_w, i32_w]
                   rfl
                  refine pure_ (i := 13) (N := some 6) (v := ?_) (a' := ?_) #[true, true, true, true, true, true, true, true, true, true, true, true, true, true, false] rfl rfl (any_of HT_.out (by kernel_rfl)) (fun _ _ _ h => h) (Or.inl ⟨by rfl, ?_⟩) ?_ ?_
                  rotate_left
                  ·intro w'
                   go_simp
                   with_reducible rfl
                  rotate_left
                  ·simp only [Act.put, List.setIfInBounds_toArray, List.set_cons_zero, List.set_cons_succ, i64_w, i32_w]
                   rfl
                  refine pure_ (i := 14) (N := some 7) (v := ?_) (a' := ?_) #[true, true, true, true, true, true, true, true, true, true, true, true, true, true, true] rfl rfl (any_of HT_.out (by kernel_rfl)) (fun _ _ _ h => h) (Or.inl ⟨by rfl, ?_⟩) ?_ ?_
                  rotate_left
                  ·intro w'
                   go_simp
                   with_reducible rfl
                  rotate_left
                  ·simp only [Act.put, List.setIfInBounds_toArray, List.set_cons_zero, List.set_cons_succ, i64_w, i32_w]
                   rfl
                  refine done_ (done_of HT_.out (by kernel_rfl)) ?_
                  try go_wp2
                  go_ret2
                  exact ⟨by first | rfl | (simp [errW_none, errW_some] <;> rfl) | (simp [*, errW_none, errW_some] <;> rfl), by repeat (first | (with_reducible first | exact HB.out | apply below_alloc | apply pw_below_drewN | apply below_drew1 | refine below_set ?_ GE126.out) | exact HB.out)⟩
                 ·rw [if_neg c114] at H
                  exact absurd H (by simp)
                ·rw [if_neg c112] at H
                 exact absurd H (by simp)
               ·rw [if_neg c111] at H
                exact absurd H (by simp)
              ·rw [if_neg c109] at H
               exact absurd H (by simp)
             ·rw [if_neg c107] at H
              have c107b0 : (a0 == 84) = false := beq_eq_false_iff_ne.mpr c107
              have c107b1 : (a0 != 84) = true := bne_iff_ne.mpr c107
              by_cases c123 : a0 = 101
              ·rw [if_pos c123] at H
               have c123b0 : (a0 == 101) = true := beq_iff_eq.mpr c123
               have c123b1 : (a0 != 101) = false := bne_eq_false_iff_eq.mpr c123
               clear c123
               replace H := Option.bind_eq_some_iff.mp H
               obtain ⟨t144, A1240, H⟩ := H
               replace H : (if t120 < 10 then (if 1 ≤ (t144.size : Int) then (if 1 + (t144.extract 1 t144.size).size ≤ 9223372036854775807 then (some ((⟨#[32]⟩ : ByteArray) ++ (t144.extract 1 t144.size), true)) else (none)) else (none)) else (some (t144, true))) = some (r1, r2) := H
               have A124 := Aside0.mk A1240
               clear A1240
               by_cases c125 : t120 < 10
               ·rw [if_pos c125] at H
                have c125b0 : decide (t120 < 10) = true := decide_eq_true c125
                clear c125
                by_cases c126 : 1 ≤ (t144.size : Int)
                ·rw [if_pos c126] at H
                 have c126b0 := eq_true c126
                 have c126b1 : decide (1 ≤ (t144.size : Int)) = true := decide_eq_true c126
                 clear c126
                 by_cases c127 : 1 + (t144.extract 1 t144.size).size ≤ 9223372036854775807
                 ·rw [if_pos c127] at H
                  have c127b0 := eq_true c127
                  have c127b1 : decide (1 + (t144.extract 1 t144.size).size ≤ 9223372036854775807) = true := decide_eq_true c127
                  try have c127b2 : (9223372036854775807 < 1 + (t144.extract 1 t144.size).size) = False := eq_false (Nat.not_lt.2 c127)
                  (try (have c127b3 := c127; clear c127 c127b0 c127b1 c127b2; simp [go_sem, *] at c127b3; have c127b4 := eq_false (Nat.not_lt.2 c127b3)))
                  simp only [Option.some.injEq, Prod.mk.injEq] at H
                  obtain ⟨rfl, rfl⟩ := H
                  go_enter Tryd.func25, Tryd.ntmps25
                  go_wp2_with (first | ((with_reducible refine gate_callee (f := 31) rfl ?_); refine goesL_ (some 14) rfl rfl Tryd.func31 (by kernel_rfl) rfl #[.int .i64 a1, .int .i64 a2] rfl (by (try simp only [List.map_toArray, List.map_cons, List.map_nil]); first | done | rfl | (simp only [List.length_drop, List.length_take]; rfl)) ?_; (with_reducible refine (domesdayref04_Of.calls k a1 a2 t118 t119 t120 t121 t122 t123 t124 t125 _ A4.out).mono ?_); rintro e w128 ⟨rfl, hb⟩; refine ⟨_, rfl, ?_⟩; have n0_ := Aside0.mk (below_step (by repeat (first | (with_reducible first | exact HB.out | apply below_alloc | apply pw_below_drewN | apply below_drew1) | exact HB.out)) hb); clear HB; have HB := n0_; clear n0_; (try clear hb); (try clear hb2); (try clear hk); (try clear hi)) | ((with_reducible refine gate_dst (N := 8) rfl ?_); refine box_event ?hg (N := 8) ?hd (cs := #[.int .i64 0, .int .i64 0, .int .i64 0, .int .i64 0, .int .i64 0, .int .i64 0, .int .i64 0, .int .i64 0]) (t := 23) ?hr ?_; (case hd => rfl); (case hg => rfl); (case hr => first | (go_simp; done) | (go_simp; rfl)); intro gb126 hg w129 hbox hb; have n0_ := Aside0.mk (below_step (by repeat (first | (with_reducible first | exact HB.out | apply below_alloc | apply pw_below_drewN | apply below_drew1) | exact HB.out)) hb); have n1_ := Aside0.mk (hbox); have n2_ := Aside0.mk ((by rw [hg]; exact (below_size (by repeat (first | (with_reducible first | exact HB.out | apply below_alloc | apply pw_below_drewN | apply below_drew1) | exact HB.out))) : w.heap.size ≤ gb126)); have n3_ := Aside0.mk ((by rw [hg]; exact (below_size (by repeat (first | (with_reducible first | exact HB.out | apply below_alloc | apply pw_below_drewN | apply below_drew1) | exact HB.out))) : w.heap.size ≤ gb126)); clear HB; have HB := n0_; have BK126 := n1_; have GW126 := n2_; have GE126 := n3_; clear n0_ n1_ n2_ n3_; clear hb hbox hg; have hcz130_0 : w129.cell? ⟨gb126, 0, none⟩ = some (.int .i64 0) := (blk_cell BK126.out 0).trans rfl; have hcz130_1 : w129.cell? ⟨gb126, 1, none⟩ = some (.int .i64 0) := (blk_cell BK126.out 1).trans rfl; have hcz130_2 : w129.cell? ⟨gb126, 2, none⟩ = some (.int .i64 0) := (blk_cell BK126.out 2).trans rfl; have hcz130_3 : w129.cell? ⟨gb126, 3, none⟩ = some (.int .i64 0) := (blk_cell BK126.out 3).trans rfl; have hcz130_4 : w129.cell? ⟨gb126, 4, none⟩ = some (.int .i64 0) := (blk_cell BK126.out 4).trans rfl; have hcz130_5 : w129.cell? ⟨gb126, 5, none⟩ = some (.int .i64 0) := (blk_cell BK126.out 5).trans rfl; have hcz130_6 : w129.cell? ⟨gb126, 6, none⟩ = some (.int .i64 0) := (blk_cell BK126.out 6).trans rfl; have hcz130_7 : w129.cell? ⟨gb126, 7, none⟩ = some (.int .i64 0) := (blk_cell BK126.out 7).trans rfl; have hfz130_0 := blk_frozen BK126.out 0; have hfz130_1 := blk_frozen BK126.out 1; have hfz130_2 := blk_frozen BK126.out 2; have hfz130_3 := blk_frozen BK126.out 3; have hfz130_4 := blk_frozen BK126.out 4; have hfz130_5 := blk_frozen BK126.out 5; have hfz130_6 := blk_frozen BK126.out 6; have hfz130_7 := blk_frozen BK126.out 7) | ((with_reducible refine gate_store (t := 23) (p := 8) rfl ?_); refine store_event (t := 23) (p := 8) (v := ?vo_w131) (w1 := ((((((((w129.setCell ⟨gb126, 0, none⟩ (.int .i64 t118)).setCell ⟨gb126, 1, none⟩ (.int .i64 t119)).setCell ⟨gb126, 2, none⟩ (.int .i64 t120)).setCell ⟨gb126, 3, none⟩ (.int .i64 t121)).setCell ⟨gb126, 4, none⟩ (.int .i64 t122)).setCell ⟨gb126, 5, none⟩ (.int .i64 t123)).setCell ⟨gb126, 6, none⟩ (.int .i64 t124)).setCell ⟨gb126, 7, none⟩ (.int .i64 t125))) ?hg ?ho ?hn ?hr ?_; (case ho => rfl); (case hg => rfl); (case hn => rfl); (case hr => first | (go_simp; done) | (go_simp; rfl)); intro w131 hw; have n0_ : Aside0 (w131.heap[gb126]? = some (.cells #[.int .i64 t118, .int .i64 t119, .int .i64 t120, .int .i64 t121, .int .i64 t122, .int .i64 t123, .int .i64 t124, .int .i64 t125] 23 (0, 0))) := ⟨(by rw [hw]; exact (by (with_reducible repeat (first | refine blk_drewN ?_ _ | refine blk_drew ?_ | refine blk_alloc ?_ _)); refine blk_put (cs := #[.int .i64 t118, .int .i64 t119, .int .i64 t120, .int .i64 t121, .int .i64 t122, .int .i64 t123, .int .i64 t124, .int .i64 0]) ?_ 7 _ (by first | rfl | (simp; done)); (with_reducible repeat (first | refine blk_drewN ?_ _ | refine blk_drew ?_ | refine blk_alloc ?_ _)); refine blk_put (cs := #[.int .i64 t118, .int .i64 t119, .int .i64 t120, .int .i64 t121, .int .i64 t122, .int .i64 t123, .int .i64 0, .int .i64 0]) ?_ 6 _ (by first | rfl | (simp; done)); (with_reducible repeat (first | refine blk_drewN ?_ _ | refine blk_drew ?_ | refine blk_alloc ?_ _)); refine blk_put (cs := #[.int .i64 t118, .int .i64 t119, .int .i64 t120, .int .i64 t121, .int .i64 t122, .int .i64 0, .int .i64 0, .int .i64 0]) ?_ 5 _ (by first | rfl | (simp; done)); (with_reducible repeat (first | refine blk_drewN ?_ _ | refine blk_drew ?_ | refine blk_alloc ?_ _)); refine blk_put (cs := #[.int .i64 t118, .int .i64 t119, .int .i64 t120, .int .i64 t121, .int .i64 0, .int .i64 0, .int .i64 0, .int .i64 0]) ?_ 4 _ (by first | rfl | (simp; done)); (with_reducible repeat (first | refine blk_drewN ?_ _ | refine blk_drew ?_ | refine blk_alloc ?_ _)); refine blk_put (cs := #[.int .i64 t118, .int .i64 t119, .int .i64 t120, .int .i64 0, .int .i64 0, .int .i64 0, .int .i64 0, .int .i64 0]) ?_ 3 _ (by first | rfl | (simp; done)); (with_reducible repeat (first | refine blk_drewN ?_ _ | refine blk_drew ?_ | refine blk_alloc ?_ _)); refine blk_put (cs := #[.int .i64 t118, .int .i64 t119, .int .i64 0, .int .i64 0, .int .i64 0, .int .i64 0, .int .i64 0, .int .i64 0]) ?_ 2 _ (by first | rfl | (simp; done)); (with_reducible repeat (first | refine blk_drewN ?_ _ | refine blk_drew ?_ | refine blk_alloc ?_ _)); refine blk_put (cs := #[.int .i64 t118, .int .i64 0, .int .i64 0, .int .i64 0, .int .i64 0, .int .i64 0, .int .i64 0, .int .i64 0]) ?_ 1 _ (by first | rfl | (simp; done)); (with_reducible repeat (first | refine blk_drewN ?_ _ | refine blk_drew ?_ | refine blk_alloc ?_ _)); refine blk_put (cs := #[.int .i64 0, .int .i64 0, .int .i64 0, .int .i64 0, .int .i64 0, .int .i64 0, .int .i64 0, .int .i64 0]) ?_ 0 _ (by first | rfl | (simp; done)); (with_reducible repeat (first | refine blk_drewN ?_ _ | refine blk_drew ?_ | refine blk_alloc ?_ _)); exact BK126.out))⟩; have n1_ : Aside0 (Below w.heap.size w w131) := ⟨(by rw [hw]; exact (by repeat (first | (with_reducible first | exact HB.out | apply below_alloc | apply pw_below_drewN | apply below_drew1 | refine below_set ?_ GE126.out) | exact HB.out)))⟩; clear hw; clear BK126; clear HB; have BK126 := n0_; have HB := n1_; clear n0_ n1_; have hcz132_0 : w131.cell? ⟨gb126, 0, none⟩ = some (.int .i64 t118) := (blk_cell BK126.out 0).trans rfl; have hcz132_1 : w131.cell? ⟨gb126, 1, none⟩ = some (.int .i64 t119) := (blk_cell BK126.out 1).trans rfl; have hcz132_2 : w131.cell? ⟨gb126, 2, none⟩ = some (.int .i64 t120) := (blk_cell BK126.out 2).trans rfl; have hcz132_3 : w131.cell? ⟨gb126, 3, none⟩ = some (.int .i64 t121) := (blk_cell BK126.out 3).trans rfl; have hcz132_4 : w131.cell? ⟨gb126, 4, none⟩ = some (.int .i64 t122) := (blk_cell BK126.out 4).trans rfl; have hcz132_5 : w131.cell? ⟨gb126, 5, none⟩ = some (.int .i64 t123) := (blk_cell BK126.out 5).trans rfl; have hcz132_6 : w131.cell? ⟨gb126, 6, none⟩ = some (.int .i64 t124) := (blk_cell BK126.out 6).trans rfl; have hcz132_7 : w131.cell? ⟨gb126, 7, none⟩ = some (.int .i64 t125) := (blk_cell BK126.out 7).trans rfl; have hfz132_0 := blk_frozen BK126.out 0; have hfz132_1 := blk_frozen BK126.out 1; have hfz132_2 := blk_frozen BK126.out 2; have hfz132_3 := blk_frozen BK126.out 3; have hfz132_4 := blk_frozen BK126.out 4; have hfz132_5 := blk_frozen BK126.out 5; have hfz132_6 := blk_frozen BK126.out 6; have hfz132_7 := blk_frozen BK126.out 7) | ((with_reducible refine gate_callee (f := 33) rfl ?_); refine goesL_ (some 112) rfl rfl Tryd.func33 (by kernel_rfl) rfl #[.int .i64 t120] rfl (by (try simp only [List.map_toArray, List.map_cons, List.map_nil]); first | done | rfl | (simp only [List.length_drop, List.length_take]; rfl)) ?_; (with_reducible refine (domesdayref05_two.calls t120 t144 _ A124.out).mono ?_); rintro e w133 ⟨rfl, hb⟩; refine ⟨_, rfl, ?_⟩; have n0_ := Aside0.mk (blk_below (g := gb126) (o := .cells #[.int .i64 t118, .int .i64 t119, .int .i64 t120, .int .i64 t121, .int .i64 t122, .int .i64 t123, .int .i64 t124, .int .i64 t125] 23 (0, 0)) (by (with_reducible repeat (first | refine blk_drewN ?_ _ | refine blk_drew ?_ | refine blk_alloc ?_ _)); exact BK126.out) hb); have n1_ := Aside0.mk (below_step (by repeat (first | (with_reducible first | exact HB.out | apply below_alloc | apply pw_below_drewN | apply below_drew1 | refine below_set ?_ GE126.out) | exact HB.out)) hb); clear BK126; clear HB; have BK126 := n0_; have HB := n1_; clear n0_ n1_; (try clear hb); (try clear hb2); (try clear hk); (try clear hi); have hcz134_0 : w133.cell? ⟨gb126, 0, none⟩ = some (.int .i64 t118) := (blk_cell BK126.out 0).trans rfl; have hcz134_1 : w133.cell? ⟨gb126, 1, none⟩ = some (.int .i64 t119) := (blk_cell BK126.out 1).trans rfl; have hcz134_2 : w133.cell? ⟨gb126, 2, none⟩ = some (.int .i64 t120) := (blk_cell BK126.out 2).trans rfl; have hcz134_3 : w133.cell? ⟨gb126, 3, none⟩ = some (.int .i64 t121) := (blk_cell BK126.out 3).trans rfl; have hcz134_4 : w133.cell? ⟨gb126, 4, none⟩ = some (.int .i64 t122) := (blk_cell BK126.out 4).trans rfl; have hcz134_5 : w133.cell? ⟨gb126, 5, none⟩ = some (.int .i64 t123) := (blk_cell BK126.out 5).trans rfl; have hcz134_6 : w133.cell? ⟨gb126, 6, none⟩ = some (.int .i64 t124) := (blk_cell BK126.out 6).trans rfl; have hcz134_7 : w133.cell? ⟨gb126, 7, none⟩ = some (.int .i64 t125) := (blk_cell BK126.out 7).trans rfl; have hfz134_0 := blk_frozen BK126.out 0; have hfz134_1 := blk_frozen BK126.out 1; have hfz134_2 := blk_frozen BK126.out 2; have hfz134_3 := blk_frozen BK126.out 3; have hfz134_4 := blk_frozen BK126.out 4; have hfz134_5 := blk_frozen BK126.out 5; have hfz134_6 := blk_frozen BK126.out 6; have hfz134_7 := blk_frozen BK126.out 7))
                  go_ret2
                  exact ⟨by first | rfl | (simp [errW_none, errW_some] <;> rfl) | (simp [*, errW_none, errW_some] <;> rfl), by repeat (first | (with_reducible first | exact HB.out | apply below_alloc | apply pw_below_drewN | apply below_drew1 | refine below_set ?_ GE126.out) | exact HB.out)⟩
                 ·rw [if_neg c127] at H
                  exact absurd H (by simp)
                ·rw [if_neg c126] at H
                 exact absurd H (by simp)
               ·rw [if_neg c125] at H
                have c125b0 : decide (t120 < 10) = false := decide_eq_false c125
                clear c125
                simp only [Option.some.injEq, Prod.mk.injEq] at H
                obtain ⟨rfl, rfl⟩ := H
                go_enter Tryd.func25, Tryd.ntmps25
                go_wp2_with (first | ((with_reducible refine gate_callee (f := 31) rfl ?_); refine goesL_ (some 14) rfl rfl Tryd.func31 (by kernel_rfl) rfl #[.int .i64 a1, .int .i64 a2] rfl (by (try simp only [List.map_toArray, List.map_cons, List.map_nil]); first | done | rfl | (simp only [List.length_drop, List.length_take]; rfl)) ?_; (with_reducible refine (domesdayref04_Of.calls k a1 a2 t118 t119 t120 t121 t122 t123 t124 t125 _ A4.out).mono ?_); rintro e w135 ⟨rfl, hb⟩; refine ⟨_, rfl, ?_⟩; have n0_ := Aside0.mk (below_step (by repeat (first | (with_reducible first | exact HB.out | apply below_alloc | apply pw_below_drewN | apply below_drew1) | exact HB.out)) hb); clear HB; have HB := n0_; clear n0_; (try clear hb); (try clear hb2); (try clear hk); (try clear hi)) | ((with_reducible refine gate_dst (N := 8) rfl ?_); refine box_event ?hg (N := 8) ?hd (cs := #[.int .i64 0, .int .i64 0, .int .i64 0, .int .i64 0, .int .i64 0, .int .i64 0, .int .i64 0, .int .i64 0]) (t := 23) ?hr ?_; (case hd => rfl); (case hg => rfl); (case hr => first | (go_simp; done) | (go_simp; rfl)); intro gb126 hg w136 hbox hb; have n0_ := Aside0.mk (below_step (by repeat (first | (with_reducible first | exact HB.out | apply below_alloc | apply pw_below_drewN | apply below_drew1) | exact HB.out)) hb); have n1_ := Aside0.mk (hbox); have n2_ := Aside0.mk ((by rw [hg]; exact (below_size (by repeat (first | (with_reducible first | exact HB.out | apply below_alloc | apply pw_below_drewN | apply below_drew1) | exact HB.out))) : w.heap.size ≤ gb126)); have n3_ := Aside0.mk ((by rw [hg]; exact (below_size (by repeat (first | (with_reducible first | exact HB.out | apply below_alloc | apply pw_below_drewN | apply below_drew1) | exact HB.out))) : w.heap.size ≤ gb126)); clear HB; have HB := n0_; have BK126 := n1_; have GW126 := n2_; have GE126 := n3_; clear n0_ n1_ n2_ n3_; clear hb hbox hg; have hcz137_0 : w136.cell? ⟨gb126, 0, none⟩ = some (.int .i64 0) := (blk_cell BK126.out 0).trans rfl; have hcz137_1 : w136.cell? ⟨gb126, 1, none⟩ = some (.int .i64 0) := (blk_cell BK126.out 1).trans rfl; have hcz137_2 : w136.cell? ⟨gb126, 2, none⟩ = some (.int .i64 0) := (blk_cell BK126.out 2).trans rfl; have hcz137_3 : w136.cell? ⟨gb126, 3, none⟩ = some (.int .i64 0) := (blk_cell BK126.out 3).trans rfl; have hcz137_4 : w136.cell? ⟨gb126, 4, none⟩ = some (.int .i64 0) := (blk_cell BK126.out 4).trans rfl; have hcz137_5 : w136.cell? ⟨gb126, 5, none⟩ = some (.int .i64 0) := (blk_cell BK126.out 5).trans rfl; have hcz137_6 : w136.cell? ⟨gb126, 6, none⟩ = some (.int .i64 0) := (blk_cell BK126.out 6).trans rfl; have hcz137_7 : w136.cell? ⟨gb126, 7, none⟩ = some (.int .i64 0) := (blk_cell BK126.out 7).trans rfl; have hfz137_0 := blk_frozen BK126.out 0; have hfz137_1 := blk_frozen BK126.out 1; have hfz137_2 := blk_frozen BK126.out 2; have hfz137_3 := blk_frozen BK126.out 3; have hfz137_4 := blk_frozen BK126.out 4; have hfz137_5 := blk_frozen BK126.out 5; have hfz137_6 := blk_frozen BK126.out 6; have hfz137_7 := blk_frozen BK126.out 7) | ((with_reducible refine gate_store (t := 23) (p := 8) rfl ?_); refine store_event (t := 23) (p := 8) (v := ?vo_w138) (w1 := ((((((((w136.setCell ⟨gb126, 0, none⟩ (.int .i64 t118)).setCell ⟨gb126, 1, none⟩ (.int .i64 t119)).setCell ⟨gb126, 2, none⟩ (.int .i64 t120)).setCell ⟨gb126, 3, none⟩ (.int .i64 t121)).setCell ⟨gb126, 4, none⟩ (.int .i64 t122)).setCell ⟨gb126, 5, none⟩ (.int .i64 t123)).setCell ⟨gb126, 6, none⟩ (.int .i64 t124)).setCell ⟨gb126, 7, none⟩ (.int .i64 t125))) ?hg ?ho ?hn ?hr ?_; (case ho => rfl); (case hg => rfl); (case hn => rfl); (case hr => first | (go_simp; done) | (go_simp; rfl)); intro w138 hw; have n0_ : Aside0 (w138.heap[gb126]? = some (.cells #[.int .i64 t118, .int .i64 t119, .int .i64 t120, .int .i64 t121, .int .i64 t122, .int .i64 t123, .int .i64 t124, .int .i64 t125] 23 (0, 0))) := ⟨(by rw [hw]; exact (by (with_reducible repeat (first | refine blk_drewN ?_ _ | refine blk_drew ?_ | refine blk_alloc ?_ _)); refine blk_put (cs := #[.int .i64 t118, .int .i64 t119, .int .i64 t120, .int .i64 t121, .int .i64 t122, .int .i64 t123, .int .i64 t124, .int .i64 0]) ?_ 7 _ (by first | rfl | (simp; done)); (with_reducible repeat (first | refine blk_drewN ?_ _ | refine blk_drew ?_ | refine blk_alloc ?_ _)); refine blk_put (cs := #[.int .i64 t118, .int .i64 t119, .int .i64 t120, .int .i64 t121, .int .i64 t122, .int .i64 t123, .int .i64 0, .int .i64 0]) ?_ 6 _ (by first | rfl | (simp; done)); (with_reducible repeat (first | refine blk_drewN ?_ _ | refine blk_drew ?_ | refine blk_alloc ?_ _)); refine blk_put (cs := #[.int .i64 t118, .int .i64 t119, .int .i64 t120, .int .i64 t121, .int .i64 t122, .int .i64 0, .int .i64 0, .int .i64 0]) ?_ 5 _ (by first | rfl | (simp; done)); (with_reducible repeat (first | refine blk_drewN ?_ _ | refine blk_drew ?_ | refine blk_alloc ?_ _)); refine blk_put (cs := #[.int .i64 t118, .int .i64 t119, .int .i64 t120, .int .i64 t121, .int .i64 0, .int .i64 0, .int .i64 0, .int .i64 0]) ?_ 4 _ (by first | rfl | (simp; done)); (with_reducible repeat (first | refine blk_drewN ?_ _ | refine blk_drew ?_ | refine blk_alloc ?_ _)); refine blk_put (cs := #[.int .i64 t118, .int .i64 t119, .int .i64 t120, .int .i64 0, .int .i64 0, .int .i64 0, .int .i64 0, .int .i64 0]) ?_ 3 _ (by first | rfl | (simp; done)); (with_reducible repeat (first | refine blk_drewN ?_ _ | refine blk_drew ?_ | refine blk_alloc ?_ _)); refine blk_put (cs := #[.int .i64 t118, .int .i64 t119, .int .i64 0, .int .i64 0, .int .i64 0, .int .i64 0, .int .i64 0, .int .i64 0]) ?_ 2 _ (by first | rfl | (simp; done)); (with_reducible repeat (first | refine blk_drewN ?_ _ | refine blk_drew ?_ | refine blk_alloc ?_ _)); refine blk_put (cs := #[.int .i64 t118, .int .i64 0, .int .i64 0, .int .i64 0, .int .i64 0, .int .i64 0, .int .i64 0, .int .i64 0]) ?_ 1 _ (by first | rfl | (simp; done)); (with_reducible repeat (first | refine blk_drewN ?_ _ | refine blk_drew ?_ | refine blk_alloc ?_ _)); refine blk_put (cs := #[.int .i64 0, .int .i64 0, .int .i64 0, .int .i64 0, .int .i64 0, .int .i64 0, .int .i64 0, .int .i64 0]) ?_ 0 _ (by first | rfl | (simp; done)); (with_reducible repeat (first | refine blk_drewN ?_ _ | refine blk_drew ?_ | refine blk_alloc ?_ _)); exact BK126.out))⟩; have n1_ : Aside0 (Below w.heap.size w w138) := ⟨(by rw [hw]; exact (by repeat (first | (with_reducible first | exact HB.out | apply below_alloc | apply pw_below_drewN | apply below_drew1 | refine below_set ?_ GE126.out) | exact HB.out)))⟩; clear hw; clear BK126; clear HB; have BK126 := n0_; have HB := n1_; clear n0_ n1_; have hcz139_0 : w138.cell? ⟨gb126, 0, none⟩ = some (.int .i64 t118) := (blk_cell BK126.out 0).trans rfl; have hcz139_1 : w138.cell? ⟨gb126, 1, none⟩ = some (.int .i64 t119) := (blk_cell BK126.out 1).trans rfl; have hcz139_2 : w138.cell? ⟨gb126, 2, none⟩ = some (.int .i64 t120) := (blk_cell BK126.out 2).trans rfl; have hcz139_3 : w138.cell? ⟨gb126, 3, none⟩ = some (.int .i64 t121) := (blk_cell BK126.out 3).trans rfl; have hcz139_4 : w138.cell? ⟨gb126, 4, none⟩ = some (.int .i64 t122) := (blk_cell BK126.out 4).trans rfl; have hcz139_5 : w138.cell? ⟨gb126, 5, none⟩ = some (.int .i64 t123) := (blk_cell BK126.out 5).trans rfl; have hcz139_6 : w138.cell? ⟨gb126, 6, none⟩ = some (.int .i64 t124) := (blk_cell BK126.out 6).trans rfl; have hcz139_7 : w138.cell? ⟨gb126, 7, none⟩ = some (.int .i64 t125) := (blk_cell BK126.out 7).trans rfl; have hfz139_0 := blk_frozen BK126.out 0; have hfz139_1 := blk_frozen BK126.out 1; have hfz139_2 := blk_frozen BK126.out 2; have hfz139_3 := blk_frozen BK126.out 3; have hfz139_4 := blk_frozen BK126.out 4; have hfz139_5 := blk_frozen BK126.out 5; have hfz139_6 := blk_frozen BK126.out 6; have hfz139_7 := blk_frozen BK126.out 7) | ((with_reducible refine gate_callee (f := 33) rfl ?_); refine goesL_ (some 112) rfl rfl Tryd.func33 (by kernel_rfl) rfl #[.int .i64 t120] rfl (by (try simp only [List.map_toArray, List.map_cons, List.map_nil]); first | done | rfl | (simp only [List.length_drop, List.length_take]; rfl)) ?_; (with_reducible refine (domesdayref05_two.calls t120 t144 _ A124.out).mono ?_); rintro e w140 ⟨rfl, hb⟩; refine ⟨_, rfl, ?_⟩; have n0_ := Aside0.mk (blk_below (g := gb126) (o := .cells #[.int .i64 t118, .int .i64 t119, .int .i64 t120, .int .i64 t121, .int .i64 t122, .int .i64 t123, .int .i64 t124, .int .i64 t125] 23 (0, 0)) (by (with_reducible repeat (first | refine blk_drewN ?_ _ | refine blk_drew ?_ | refine blk_alloc ?_ _)); exact BK126.out) hb); have n1_ := Aside0.mk (below_step (by repeat (first | (with_reducible first | exact HB.out | apply below_alloc | apply pw_below_drewN | apply below_drew1 | refine below_set ?_ GE126.out) | exact HB.out)) hb); clear BK126; clear HB; have BK126 := n0_; have HB := n1_; clear n0_ n1_; (try clear hb); (try clear hb2); (try clear hk); (try clear hi); have hcz141_0 : w140.cell? ⟨gb126, 0, none⟩ = some (.int .i64 t118) := (blk_cell BK126.out 0).trans rfl; have hcz141_1 : w140.cell? ⟨gb126, 1, none⟩ = some (.int .i64 t119) := (blk_cell BK126.out 1).trans rfl; have hcz141_2 : w140.cell? ⟨gb126, 2, none⟩ = some (.int .i64 t120) := (blk_cell BK126.out 2).trans rfl; have hcz141_3 : w140.cell? ⟨gb126, 3, none⟩ = some (.int .i64 t121) := (blk_cell BK126.out 3).trans rfl; have hcz141_4 : w140.cell? ⟨gb126, 4, none⟩ = some (.int .i64 t122) := (blk_cell BK126.out 4).trans rfl; have hcz141_5 : w140.cell? ⟨gb126, 5, none⟩ = some (.int .i64 t123) := (blk_cell BK126.out 5).trans rfl; have hcz141_6 : w140.cell? ⟨gb126, 6, none⟩ = some (.int .i64 t124) := (blk_cell BK126.out 6).trans rfl; have hcz141_7 : w140.cell? ⟨gb126, 7, none⟩ = some (.int .i64 t125) := (blk_cell BK126.out 7).trans rfl; have hfz141_0 := blk_frozen BK126.out 0; have hfz141_1 := blk_frozen BK126.out 1; have hfz141_2 := blk_frozen BK126.out 2; have hfz141_3 := blk_frozen BK126.out 3; have hfz141_4 := blk_frozen BK126.out 4; have hfz141_5 := blk_frozen BK126.out 5; have hfz141_6 := blk_frozen BK126.out 6; have hfz141_7 := blk_frozen BK126.out 7))
                go_ret2
                exact ⟨by first | rfl | (simp [errW_none, errW_some] <;> rfl) | (simp [*, errW_none, errW_some] <;> rfl), by repeat (first | (with_reducible first | exact HB.out | apply below_alloc | apply pw_below_drewN | apply below_drew1 | refine below_set ?_ GE126.out) | exact HB.out)⟩
              ·rw [if_neg c123] at H
               have c123b0 : (a0 == 101) = false := beq_eq_false_iff_ne.mpr c123
               have c123b1 : (a0 != 101) = true := bne_iff_ne.mpr c123
               by_cases c142 : a0 = 122
               ·rw [if_pos c142] at H
                have c142b0 : (a0 == 122) = true := beq_iff_eq.mpr c142
                have c142b1 : (a0 != 122) = false := bne_eq_false_iff_eq.mpr c142
                clear c142
                obtain ⟨ji143, hji143⟩ : ∃ j_ : Int, (mn a2 86400) = j_ := ⟨_, rfl⟩
                replace H : (if (mx (ji143) (-86400)) < 0 then (domesdayref05_One.j0 k (-(mx (ji143) (-86400))) (⟨#[45]⟩ : ByteArray)) else (domesdayref05_One.j0 k (mx (ji143) (-86400)) (⟨#[43]⟩ : ByteArray))) = some (r1, r2) := by first | (rw [hji143] at H; exact H) | (simp only [hji143] at H ⊢; exact H)
                (try rw [hji143] at A4)
                (try (have hji143h : ji143 ≤ 86400 := by (rw [← hji143]; unfold mn; (repeat' split) <;> omega)))
                (try (have hji143g : ji143 ≤ 64 := by omega))
                have hji143_ : (if 86400 < a2 then 86400 else a2) = ji143 := hji143
                obtain ⟨ji144, hji144⟩ : ∃ j_ : Int, (mx (ji143) (-86400)) = j_ := ⟨_, rfl⟩
                replace H : (if (ji144) < 0 then (domesdayref05_One.j0 k (-(ji144)) (⟨#[45]⟩ : ByteArray)) else (domesdayref05_One.j0 k ji144 (⟨#[43]⟩ : ByteArray))) = some (r1, r2) := by first | (rw [hji144] at H; exact H) | (simp only [hji144] at H ⊢; exact H)
                (try rw [hji144] at A4)
                have hji144_ : (if (ji143) < (-86400) then (-86400) else (ji143)) = ji144 := hji144
                have HC145 := Aside0.mk H
                clear H
                go_enter Tryd.func25, Tryd.ntmps25
                go_upto_if 126 with (first | ((with_reducible refine gate_callee (f := 31) rfl ?_); refine goesL_ (some 14) rfl rfl Tryd.func31 (by kernel_rfl) rfl #[.int .i64 a1, .int .i64 a2] rfl (by (try simp only [List.map_toArray, List.map_cons, List.map_nil]); first | done | rfl | (simp only [List.length_drop, List.length_take]; rfl)) ?_; (with_reducible refine (domesdayref04_Of.calls k a1 a2 t118 t119 t120 t121 t122 t123 t124 t125 _ A4.out).mono ?_); rintro e w146 ⟨rfl, hb⟩; refine ⟨_, rfl, ?_⟩; have n0_ := Aside0.mk (below_step (by repeat (first | (with_reducible first | exact HB.out | apply below_alloc | apply pw_below_drewN | apply below_drew1) | exact HB.out)) hb); clear HB; have HB := n0_; clear n0_; (try clear hb); (try clear hb2); (try clear hk); (try clear hi)) | ((with_reducible refine gate_dst (N := 8) rfl ?_); refine box_event ?hg (N := 8) ?hd (cs := #[.int .i64 0, .int .i64 0, .int .i64 0, .int .i64 0, .int .i64 0, .int .i64 0, .int .i64 0, .int .i64 0]) (t := 23) ?hr ?_; (case hd => rfl); (case hg => rfl); (case hr => first | (go_simp; done) | (go_simp; rfl)); intro gb126 hg w147 hbox hb; have n0_ := Aside0.mk (below_step (by repeat (first | (with_reducible first | exact HB.out | apply below_alloc | apply pw_below_drewN | apply below_drew1) | exact HB.out)) hb); have n1_ := Aside0.mk (hbox); have n2_ := Aside0.mk ((by rw [hg]; exact (below_size (by repeat (first | (with_reducible first | exact HB.out | apply below_alloc | apply pw_below_drewN | apply below_drew1) | exact HB.out))) : w.heap.size ≤ gb126)); have n3_ := Aside0.mk ((by rw [hg]; exact (below_size (by repeat (first | (with_reducible first | exact HB.out | apply below_alloc | apply pw_below_drewN | apply below_drew1) | exact HB.out))) : w.heap.size ≤ gb126)); clear HB; have HB := n0_; have BK126 := n1_; have GW126 := n2_; have GE126 := n3_; clear n0_ n1_ n2_ n3_; clear hb hbox hg; have hcz148_0 : w147.cell? ⟨gb126, 0, none⟩ = some (.int .i64 0) := (blk_cell BK126.out 0).trans rfl; have hcz148_1 : w147.cell? ⟨gb126, 1, none⟩ = some (.int .i64 0) := (blk_cell BK126.out 1).trans rfl; have hcz148_2 : w147.cell? ⟨gb126, 2, none⟩ = some (.int .i64 0) := (blk_cell BK126.out 2).trans rfl; have hcz148_3 : w147.cell? ⟨gb126, 3, none⟩ = some (.int .i64 0) := (blk_cell BK126.out 3).trans rfl; have hcz148_4 : w147.cell? ⟨gb126, 4, none⟩ = some (.int .i64 0) := (blk_cell BK126.out 4).trans rfl; have hcz148_5 : w147.cell? ⟨gb126, 5, none⟩ = some (.int .i64 0) := (blk_cell BK126.out 5).trans rfl; have hcz148_6 : w147.cell? ⟨gb126, 6, none⟩ = some (.int .i64 0) := (blk_cell BK126.out 6).trans rfl; have hcz148_7 : w147.cell? ⟨gb126, 7, none⟩ = some (.int .i64 0) := (blk_cell BK126.out 7).trans rfl; have hfz148_0 := blk_frozen BK126.out 0; have hfz148_1 := blk_frozen BK126.out 1; have hfz148_2 := blk_frozen BK126.out 2; have hfz148_3 := blk_frozen BK126.out 3; have hfz148_4 := blk_frozen BK126.out 4; have hfz148_5 := blk_frozen BK126.out 5; have hfz148_6 := blk_frozen BK126.out 6; have hfz148_7 := blk_frozen BK126.out 7))
                (try simp only [Act.put, List.setIfInBounds_toArray, List.set_cons_zero, List.set_cons_succ])
                go_cut [10, 11] (fun v10 v11 wc => ∃ (kq : Nat) (x10_144 : Int) (x11_144 : ByteArray), v10 = .int .i64 x10_144 ∧ v11 = .string x11_144 ∧ Aside0 (domesdayref05_One.j0 kq x10_144 x11_144 = some (r1, r2)) ∧ Aside0 (kq ≤ k) ∧ Aside0 (wc.heap[gb126]? = some (.cells #[.int .i64 t118, .int .i64 t119, .int .i64 t120, .int .i64 t121, .int .i64 t122, .int .i64 t123, .int .i64 t124, .int .i64 t125] 23 (0, 0))) ∧ Aside0 (Below w.heap.size w wc))
                case first =>
                 have H := HC145.out
                 clear HC145
                 by_cases c149 : (ji144) < 0
                 ·rw [if_pos c149] at H
                  have c149b0 : decide ((ji144) < 0) = true := decide_eq_true c149
                  clear c149
                  (first | rw [c149b0] | (simp only [i64_w, i32_w]; rw [c149b0]) | skip)
                  have H' := Aside0.mk H
                  clear H
                  go_wp2
                  go_meet
                  case rel => exact ⟨_, (-(ji144)), ((⟨#[45]⟩ : ByteArray)), (by first | rfl | (simp; done) | (simp only [← hji144] <;> (first | rfl | simp)) | (simp [*]; done)), (by first | rfl | (simp; done) | (simp [*]; done)), H', ⟨by first | omega | exact Nat.le_refl _⟩, ⟨by (with_reducible repeat (first | refine blk_drewN ?_ _ | refine blk_drew ?_ | refine blk_alloc ?_ _)); refine blk_put (cs := #[.int .i64 t118, .int .i64 t119, .int .i64 t120, .int .i64 t121, .int .i64 t122, .int .i64 t123, .int .i64 t124, .int .i64 0]) ?_ 7 _ (by first | rfl | (simp; done)); (with_reducible repeat (first | refine blk_drewN ?_ _ | refine blk_drew ?_ | refine blk_alloc ?_ _)); refine blk_put (cs := #[.int .i64 t118, .int .i64 t119, .int .i64 t120, .int .i64 t121, .int .i64 t122, .int .i64 t123, .int .i64 0, .int .i64 0]) ?_ 6 _ (by first | rfl | (simp; done)); (with_reducible repeat (first | refine blk_drewN ?_ _ | refine blk_drew ?_ | refine blk_alloc ?_ _)); refine blk_put (cs := #[.int .i64 t118, .int .i64 t119, .int .i64 t120, .int .i64 t121, .int .i64 t122, .int .i64 0, .int .i64 0, .int .i64 0]) ?_ 5 _ (by first | rfl | (simp; done)); (with_reducible repeat (first | refine blk_drewN ?_ _ | refine blk_drew ?_ | refine blk_alloc ?_ _)); refine blk_put (cs := #[.int .i64 t118, .int .i64 t119, .int .i64 t120, .int .i64 t121, .int .i64 0, .int .i64 0, .int .i64 0, .int .i64 0]) ?_ 4 _ (by first | rfl | (simp; done)); (with_reducible repeat (first | refine blk_drewN ?_ _ | refine blk_drew ?_ | refine blk_alloc ?_ _)); refine blk_put (cs := #[.int .i64 t118, .int .i64 t119, .int .i64 t120, .int .i64 0, .int .i64 0, .int .i64 0, .int .i64 0, .int .i64 0]) ?_ 3 _ (by first | rfl | (simp; done)); (with_reducible repeat (first | refine blk_drewN ?_ _ | refine blk_drew ?_ | refine blk_alloc ?_ _)); refine blk_put (cs := #[.int .i64 t118, .int .i64 t119, .int .i64 0, .int .i64 0, .int .i64 0, .int .i64 0, .int .i64 0, .int .i64 0]) ?_ 2 _ (by first | rfl | (simp; done)); (with_reducible repeat (first | refine blk_drewN ?_ _ | refine blk_drew ?_ | refine blk_alloc ?_ _)); refine blk_put (cs := #[.int .i64 t118, .int .i64 0, .int .i64 0, .int .i64 0, .int .i64 0, .int .i64 0, .int .i64 0, .int .i64 0]) ?_ 1 _ (by first | rfl | (simp; done)); (with_reducible repeat (first | refine blk_drewN ?_ _ | refine blk_drew ?_ | refine blk_alloc ?_ _)); refine blk_put (cs := #[.int .i64 0, .int .i64 0, .int .i64 0, .int .i64 0, .int .i64 0, .int .i64 0, .int .i64 0, .int .i64 0]) ?_ 0 _ (by first | rfl | (simp; done)); (with_reducible repeat (first | refine blk_drewN ?_ _ | refine blk_drew ?_ | refine blk_alloc ?_ _)); exact BK126.out⟩, ⟨by repeat (first | (with_reducible first | exact HB.out | apply below_alloc | apply pw_below_drewN | apply below_drew1 | refine below_set ?_ GE126.out) | exact HB.out)⟩⟩
                 ·rw [if_neg c149] at H
                  have c149b0 : decide ((ji144) < 0) = false := decide_eq_false c149
                  clear c149
                  (first | rw [c149b0] | (simp only [i64_w, i32_w]; rw [c149b0]) | skip)
                  have H' := Aside0.mk H
                  clear H
                  go_wp2
                  go_meet
                  case rel => exact ⟨_, (ji144), ((⟨#[43]⟩ : ByteArray)), (by first | rfl | (simp; done) | (simp only [← hji144] <;> (first | rfl | simp)) | (simp [*]; done)), (by first | rfl | (simp; done) | (simp [*]; done)), H', ⟨by first | omega | exact Nat.le_refl _⟩, ⟨by (with_reducible repeat (first | refine blk_drewN ?_ _ | refine blk_drew ?_ | refine blk_alloc ?_ _)); refine blk_put (cs := #[.int .i64 t118, .int .i64 t119, .int .i64 t120, .int .i64 t121, .int .i64 t122, .int .i64 t123, .int .i64 t124, .int .i64 0]) ?_ 7 _ (by first | rfl | (simp; done)); (with_reducible repeat (first | refine blk_drewN ?_ _ | refine blk_drew ?_ | refine blk_alloc ?_ _)); refine blk_put (cs := #[.int .i64 t118, .int .i64 t119, .int .i64 t120, .int .i64 t121, .int .i64 t122, .int .i64 t123, .int .i64 0, .int .i64 0]) ?_ 6 _ (by first | rfl | (simp; done)); (with_reducible repeat (first | refine blk_drewN ?_ _ | refine blk_drew ?_ | refine blk_alloc ?_ _)); refine blk_put (cs := #[.int .i64 t118, .int .i64 t119, .int .i64 t120, .int .i64 t121, .int .i64 t122, .int .i64 0, .int .i64 0, .int .i64 0]) ?_ 5 _ (by first | rfl | (simp; done)); (with_reducible repeat (first | refine blk_drewN ?_ _ | refine blk_drew ?_ | refine blk_alloc ?_ _)); refine blk_put (cs := #[.int .i64 t118, .int .i64 t119, .int .i64 t120, .int .i64 t121, .int .i64 0, .int .i64 0, .int .i64 0, .int .i64 0]) ?_ 4 _ (by first | rfl | (simp; done)); (with_reducible repeat (first | refine blk_drewN ?_ _ | refine blk_drew ?_ | refine blk_alloc ?_ _)); refine blk_put (cs := #[.int .i64 t118, .int .i64 t119, .int .i64 t120, .int .i64 0, .int .i64 0, .int .i64 0, .int .i64 0, .int .i64 0]) ?_ 3 _ (by first | rfl | (simp; done)); (with_reducible repeat (first | refine blk_drewN ?_ _ | refine blk_drew ?_ | refine blk_alloc ?_ _)); refine blk_put (cs := #[.int .i64 t118, .int .i64 t119, .int .i64 0, .int .i64 0, .int .i64 0, .int .i64 0, .int .i64 0, .int .i64 0]) ?_ 2 _ (by first | rfl | (simp; done)); (with_reducible repeat (first | refine blk_drewN ?_ _ | refine blk_drew ?_ | refine blk_alloc ?_ _)); refine blk_put (cs := #[.int .i64 t118, .int .i64 0, .int .i64 0, .int .i64 0, .int .i64 0, .int .i64 0, .int .i64 0, .int .i64 0]) ?_ 1 _ (by first | rfl | (simp; done)); (with_reducible repeat (first | refine blk_drewN ?_ _ | refine blk_drew ?_ | refine blk_alloc ?_ _)); refine blk_put (cs := #[.int .i64 0, .int .i64 0, .int .i64 0, .int .i64 0, .int .i64 0, .int .i64 0, .int .i64 0, .int .i64 0]) ?_ 0 _ (by first | rfl | (simp; done)); (with_reducible repeat (first | refine blk_drewN ?_ _ | refine blk_drew ?_ | refine blk_alloc ?_ _)); exact BK126.out⟩, ⟨by repeat (first | (with_reducible first | exact HB.out | apply below_alloc | apply pw_below_drewN | apply below_drew1 | refine below_set ?_ GE126.out) | exact HB.out)⟩⟩
                case rest =>
                 clear HC145
                 (try clear c1); (try clear c2); (try clear p2); (try clear c3); (try clear c7); (try clear c8); (try clear p8); (try clear q8); (try clear c9); (try clear p9); (try clear q9); (try clear c10); (try clear c11); (try clear c12); (try clear c14); (try clear c25); (try clear c31); (try clear c32); (try clear c33); (try clear c74); (try clear c74b0); (try clear c74b1); (try clear c75); (try clear c76); (try clear p82); (try clear q82); (try clear c83); (try clear c83b0); (try clear c83b1); (try clear c84); (try clear c84b0); (try clear c85); (try clear c85b0); (try clear p91); (try clear q91); (try clear c92); (try clear c92b0); (try clear c92b1); (try clear c94); (try clear c94b0); (try clear c94b1); (try clear c94b2); (try clear c96); (try clear c96b0); (try clear c96b1); (try clear c96b2); (try clear c97); (try clear c97b0); (try clear c97b1); (try clear c97b2); (try clear c99); (try clear c99b0); (try clear c99b1); (try clear c99b2); (try clear c107); (try clear c107b0); (try clear c107b1); (try clear c109); (try clear c109b0); (try clear c109b1); (try clear c109b2); (try clear c111); (try clear c111b0); (try clear c111b1); (try clear c111b2); (try clear c112); (try clear c112b0); (try clear c112b1); (try clear c112b2); (try clear c114); (try clear c114b0); (try clear c114b1); (try clear c114b2); (try clear c123); (try clear c123b0); (try clear c123b1); (try clear c125); (try clear c125b0); (try clear c126); (try clear c126b0); (try clear c126b1); (try clear c127); (try clear c127b0); (try clear c127b1); (try clear c127b2); (try clear c142); (try clear c142b0); (try clear c142b1); (try clear c149); (try clear c149b0); (try clear hcz102_0); (try clear hcz102_1); (try clear hcz102_2); (try clear hcz102_3); (try clear hcz102_4); (try clear hcz102_5); (try clear hcz102_6); (try clear hcz102_7); (try clear hcz117_0); (try clear hcz117_1); (try clear hcz117_2); (try clear hcz117_3); (try clear hcz117_4); (try clear hcz117_5); (try clear hcz117_6); (try clear hcz117_7); (try clear hcz130_0); (try clear hcz130_1); (try clear hcz130_2); (try clear hcz130_3); (try clear hcz130_4); (try clear hcz130_5); (try clear hcz130_6); (try clear hcz130_7); (try clear hcz132_0); (try clear hcz132_1); (try clear hcz132_2); (try clear hcz132_3); (try clear hcz132_4); (try clear hcz132_5); (try clear hcz132_6); (try clear hcz132_7); (try clear hcz134_0); (try clear hcz134_1); (try clear hcz134_2); (try clear hcz134_3); (try clear hcz134_4); (try clear hcz134_5); (try clear hcz134_6); (try clear hcz134_7); (try clear hcz137_0); (try clear hcz137_1); (try clear hcz137_2); (try clear hcz137_3); (try clear hcz137_4); (try clear hcz137_5); (try clear hcz137_6); (try clear hcz137_7); (try clear hcz139_0); (try clear hcz139_1); (try clear hcz139_2); (try clear hcz139_3); (try clear hcz139_4); (try clear hcz139_5); (try clear hcz139_6); (try clear hcz139_7); (try clear hcz141_0); (try clear hcz141_1); (try clear hcz141_2); (try clear hcz141_3); (try clear hcz141_4); (try clear hcz141_5); (try clear hcz141_6); (try clear hcz141_7); (try clear hcz148_0); (try clear hcz148_1); (try clear hcz148_2); (try clear hcz148_3); (try clear hcz148_4); (try clear hcz148_5); (try clear hcz148_6); (try clear hcz148_7); (try clear hcz79_0); (try clear hcz79_1); (try clear hcz79_2); (try clear hcz79_3); (try clear hcz79_4); (try clear hcz79_5); (try clear hcz79_6); (try clear hcz79_7); (try clear hcz81_0); (try clear hcz81_1); (try clear hcz81_2); (try clear hcz81_3); (try clear hcz81_4); (try clear hcz81_5); (try clear hcz81_6); (try clear hcz81_7); (try clear hcz88_0); (try clear hcz88_1); (try clear hcz88_2); (try clear hcz88_3); (try clear hcz88_4); (try clear hcz88_5); (try clear hcz88_6); (try clear hcz88_7); (try clear hcz90_0); (try clear hcz90_1); (try clear hcz90_2); (try clear hcz90_3); (try clear hcz90_4); (try clear hcz90_5); (try clear hcz90_6); (try clear hcz90_7); (try clear hfz102_0); (try clear hfz102_1); (try clear hfz102_2); (try clear hfz102_3); (try clear hfz102_4); (try clear hfz102_5); (try clear hfz102_6); (try clear hfz102_7); (try clear hfz117_0); (try clear hfz117_1); (try clear hfz117_2); (try clear hfz117_3); (try clear hfz117_4); (try clear hfz117_5); (try clear hfz117_6); (try clear hfz117_7); (try clear hfz130_0); (try clear hfz130_1); (try clear hfz130_2); (try clear hfz130_3); (try clear hfz130_4); (try clear hfz130_5); (try clear hfz130_6); (try clear hfz130_7); (try clear hfz132_0); (try clear hfz132_1); (try clear hfz132_2); (try clear hfz132_3); (try clear hfz132_4); (try clear hfz132_5); (try clear hfz132_6); (try clear hfz132_7); (try clear hfz134_0); (try clear hfz134_1); (try clear hfz134_2); (try clear hfz134_3); (try clear hfz134_4); (try clear hfz134_5); (try clear hfz134_6); (try clear hfz134_7); (try clear hfz137_0); (try clear hfz137_1); (try clear hfz137_2); (try clear hfz137_3); (try clear hfz137_4); (try clear hfz137_5); (try clear hfz137_6); (try clear hfz137_7); (try clear hfz139_0); (try clear hfz139_1); (try clear hfz139_2); (try clear hfz139_3); (try clear hfz139_4); (try clear hfz139_5); (try clear hfz139_6); (try clear hfz139_7); (try clear hfz141_0); (try clear hfz141_1); (try clear hfz141_2); (try clear hfz141_3); (try clear hfz141_4); (try clear hfz141_5); (try clear hfz141_6); (try clear hfz141_7); (try clear hfz148_0); (try clear hfz148_1); (try clear hfz148_2); (try clear hfz148_3); (try clear hfz148_4); (try clear hfz148_5); (try clear hfz148_6); (try clear hfz148_7); (try clear hfz79_0); (try clear hfz79_1); (try clear hfz79_2); (try clear hfz79_3); (try clear hfz79_4); (try clear hfz79_5); (try clear hfz79_6); (try clear hfz79_7); (try clear hfz81_0); (try clear hfz81_1); (try clear hfz81_2); (try clear hfz81_3); (try clear hfz81_4); (try clear hfz81_5); (try clear hfz81_6); (try clear hfz81_7); (try clear hfz88_0); (try clear hfz88_1); (try clear hfz88_2); (try clear hfz88_3); (try clear hfz88_4); (try clear hfz88_5); (try clear hfz88_6); (try clear hfz88_7); (try clear hfz90_0); (try clear hfz90_1); (try clear hfz90_2); (try clear hfz90_3); (try clear hfz90_4); (try clear hfz90_5); (try clear hfz90_6); (try clear hfz90_7); (try clear p82); (try clear p91); (try clear q82); (try clear q91)
                 obtain ⟨kq, x10_144, x11_144, rfl, rfl, HA, HJ144, BK126, HB⟩ := hcut
                 cases kq with
                 | zero => exact absurd HA.out (by simp [domesdayref05_One.j0])
                 | succ kj144 =>
                  have H := HA.out
                  clear HA
                  simp only [domesdayref05_One.j0] at H
                  replace H := Option.bind_eq_some_iff.mp H
                  obtain ⟨t145, A1500, H⟩ := H
                  replace H : (if x11_144.size + t145.size ≤ 9223372036854775807 then ((domesdayref05_two.f (Int.tmod (wrap64 (Int.tdiv x10_144 60)) 60)).bind fun t146 => (if x11_144.size + t145.size + t146.size ≤ 9223372036854775807 then (some ((x11_144 ++ t145) ++ t146, true)) else (none))) else (none)) = some (r1, r2) := H
                  have A150 := Aside0.mk A1500
                  clear A1500
                  by_cases c151 : x11_144.size + t145.size ≤ 9223372036854775807
                  ·rw [if_pos c151] at H
                   have c151b0 := eq_true c151
                   have c151b1 : decide (x11_144.size + t145.size ≤ 9223372036854775807) = true := decide_eq_true c151
                   try have c151b2 : (9223372036854775807 < x11_144.size + t145.size) = False := eq_false (Nat.not_lt.2 c151)
                   replace H := Option.bind_eq_some_iff.mp H
                   obtain ⟨t146, A1520, H⟩ := H
                   replace H : (if x11_144.size + t145.size + t146.size ≤ 9223372036854775807 then (some ((x11_144 ++ t145) ++ t146, true)) else (none)) = some (r1, r2) := H
                   have A152 := Aside0.mk A1520
                   clear A1520
                   by_cases c153 : x11_144.size + t145.size + t146.size ≤ 9223372036854775807
                   ·rw [if_pos c153] at H
                    have c153b0 := eq_true c153
                    have c153b1 : decide (x11_144.size + t145.size + t146.size ≤ 9223372036854775807) = true := decide_eq_true c153
                    try have c153b2 : (9223372036854775807 < x11_144.size + t145.size + t146.size) = False := eq_false (Nat.not_lt.2 c153)
                    simp only [Option.some.injEq, Prod.mk.injEq] at H
                    obtain ⟨rfl, rfl⟩ := H
                    go_wp2_with (first | ((with_reducible refine gate_callee (f := 33) rfl ?_); refine goesL_ (some 132) rfl rfl Tryd.func33 (by kernel_rfl) rfl #[.int .i64 (wrap64 (Int.tdiv x10_144 3600))] rfl (by (try simp only [List.map_toArray, List.map_cons, List.map_nil]); first | done | rfl | (simp only [List.length_drop, List.length_take]; rfl)) ?_; (with_reducible refine (domesdayref05_two.calls (wrap64 (Int.tdiv x10_144 3600)) t145 _ A150.out).mono ?_); rintro e w154 ⟨rfl, hb⟩; refine ⟨_, rfl, ?_⟩; have n0_ := Aside0.mk (blk_below (g := gb126) (o := .cells #[.int .i64 t118, .int .i64 t119, .int .i64 t120, .int .i64 t121, .int .i64 t122, .int .i64 t123, .int .i64 t124, .int .i64 t125] 23 (0, 0)) (by (with_reducible repeat (first | refine blk_drewN ?_ _ | refine blk_drew ?_ | refine blk_alloc ?_ _)); exact BK126.out) hb); have n1_ := Aside0.mk (below_step (by repeat (first | (with_reducible first | exact HB.out | apply below_alloc | apply pw_below_drewN | apply below_drew1 | refine below_set ?_ GE126.out) | exact HB.out)) hb); clear BK126; clear HB; have BK126 := n0_; have HB := n1_; clear n0_ n1_; (try clear hb); (try clear hb2); (try clear hk); (try clear hi)) | ((with_reducible refine gate_callee (f := 33) rfl ?_); refine goesL_ (some 137) rfl rfl Tryd.func33 (by kernel_rfl) rfl #[.int .i64 (Int.tmod (wrap64 (Int.tdiv x10_144 60)) 60)] rfl (by (try simp only [List.map_toArray, List.map_cons, List.map_nil]); first | done | rfl | (simp only [List.length_drop, List.length_take]; rfl)) ?_; (with_reducible refine (domesdayref05_two.calls (Int.tmod (wrap64 (Int.tdiv x10_144 60)) 60) t146 _ A152.out).mono ?_); rintro e w155 ⟨rfl, hb⟩; refine ⟨_, rfl, ?_⟩; have n0_ := Aside0.mk (blk_below (g := gb126) (o := .cells #[.int .i64 t118, .int .i64 t119, .int .i64 t120, .int .i64 t121, .int .i64 t122, .int .i64 t123, .int .i64 t124, .int .i64 t125] 23 (0, 0)) (by (with_reducible repeat (first | refine blk_drewN ?_ _ | refine blk_drew ?_ | refine blk_alloc ?_ _)); exact BK126.out) hb); have n1_ := Aside0.mk (below_step (by repeat (first | (with_reducible first | exact HB.out | apply below_alloc | apply pw_below_drewN | apply below_drew1 | refine below_set ?_ GE126.out) | exact HB.out)) hb); clear BK126; clear HB; have BK126 := n0_; have HB := n1_; clear n0_ n1_; (try clear hb); (try clear hb2); (try clear hk); (try clear hi)))
                    go_ret2
                    exact ⟨by first | rfl | (simp [errW_none, errW_some] <;> rfl) | (simp only [← hji143, ← hji144]; first | rfl | (simp [errW_none, errW_some] <;> rfl)) | (simp [*, errW_none, errW_some] <;> rfl), by repeat (first | (with_reducible first | exact HB.out | apply below_alloc | apply pw_below_drewN | apply below_drew1 | refine below_set ?_ GE126.out) | exact HB.out)⟩
                   ·rw [if_neg c153] at H
                    exact absurd H (by simp)
                  ·rw [if_neg c151] at H
                   exact absurd H (by simp)
               ·rw [if_neg c142] at H
                have c142b0 : (a0 == 122) = false := beq_eq_false_iff_ne.mpr c142
                have c142b1 : (a0 != 122) = true := bne_iff_ne.mpr c142
                simp only [Option.some.injEq, Prod.mk.injEq] at H
                obtain ⟨rfl, rfl⟩ := H
                go_enter Tryd.func25, Tryd.ntmps25
                go_wp2_with (first | ((with_reducible refine gate_callee (f := 31) rfl ?_); refine goesL_ (some 14) rfl rfl Tryd.func31 (by kernel_rfl) rfl #[.int .i64 a1, .int .i64 a2] rfl (by (try simp only [List.map_toArray, List.map_cons, List.map_nil]); first | done | rfl | (simp only [List.length_drop, List.length_take]; rfl)) ?_; (with_reducible refine (domesdayref04_Of.calls k a1 a2 t118 t119 t120 t121 t122 t123 t124 t125 _ A4.out).mono ?_); rintro e w156 ⟨rfl, hb⟩; refine ⟨_, rfl, ?_⟩; have n0_ := Aside0.mk (below_step (by repeat (first | (with_reducible first | exact HB.out | apply below_alloc | apply pw_below_drewN | apply below_drew1) | exact HB.out)) hb); clear HB; have HB := n0_; clear n0_; (try clear hb); (try clear hb2); (try clear hk); (try clear hi)) | ((with_reducible refine gate_dst (N := 8) rfl ?_); refine box_event ?hg (N := 8) ?hd (cs := #[.int .i64 0, .int .i64 0, .int .i64 0, .int .i64 0, .int .i64 0, .int .i64 0, .int .i64 0, .int .i64 0]) (t := 23) ?hr ?_; (case hd => rfl); (case hg => rfl); (case hr => first | (go_simp; done) | (go_simp; rfl)); intro gb126 hg w157 hbox hb; have n0_ := Aside0.mk (below_step (by repeat (first | (with_reducible first | exact HB.out | apply below_alloc | apply pw_below_drewN | apply below_drew1) | exact HB.out)) hb); have n1_ := Aside0.mk (hbox); have n2_ := Aside0.mk ((by rw [hg]; exact (below_size (by repeat (first | (with_reducible first | exact HB.out | apply below_alloc | apply pw_below_drewN | apply below_drew1) | exact HB.out))) : w.heap.size ≤ gb126)); have n3_ := Aside0.mk ((by rw [hg]; exact (below_size (by repeat (first | (with_reducible first | exact HB.out | apply below_alloc | apply pw_below_drewN | apply below_drew1) | exact HB.out))) : w.heap.size ≤ gb126)); clear HB; have HB := n0_; have BK126 := n1_; have GW126 := n2_; have GE126 := n3_; clear n0_ n1_ n2_ n3_; clear hb hbox hg; have hcz158_0 : w157.cell? ⟨gb126, 0, none⟩ = some (.int .i64 0) := (blk_cell BK126.out 0).trans rfl; have hcz158_1 : w157.cell? ⟨gb126, 1, none⟩ = some (.int .i64 0) := (blk_cell BK126.out 1).trans rfl; have hcz158_2 : w157.cell? ⟨gb126, 2, none⟩ = some (.int .i64 0) := (blk_cell BK126.out 2).trans rfl; have hcz158_3 : w157.cell? ⟨gb126, 3, none⟩ = some (.int .i64 0) := (blk_cell BK126.out 3).trans rfl; have hcz158_4 : w157.cell? ⟨gb126, 4, none⟩ = some (.int .i64 0) := (blk_cell BK126.out 4).trans rfl; have hcz158_5 : w157.cell? ⟨gb126, 5, none⟩ = some (.int .i64 0) := (blk_cell BK126.out 5).trans rfl; have hcz158_6 : w157.cell? ⟨gb126, 6, none⟩ = some (.int .i64 0) := (blk_cell BK126.out 6).trans rfl; have hcz158_7 : w157.cell? ⟨gb126, 7, none⟩ = some (.int .i64 0) := (blk_cell BK126.out 7).trans rfl; have hfz158_0 := blk_frozen BK126.out 0; have hfz158_1 := blk_frozen BK126.out 1; have hfz158_2 := blk_frozen BK126.out 2; have hfz158_3 := blk_frozen BK126.out 3; have hfz158_4 := blk_frozen BK126.out 4; have hfz158_5 := blk_frozen BK126.out 5; have hfz158_6 := blk_frozen BK126.out 6; have hfz158_7 := blk_frozen BK126.out 7))
                go_ret2
                exact ⟨by first | rfl | (simp [errW_none, errW_some] <;> rfl) | (simp [*, errW_none, errW_some] <;> rfl), by repeat (first | (with_reducible first | exact HB.out | apply below_alloc | apply pw_below_drewN | apply below_drew1 | refine below_set ?_ GE126.out) | exact HB.out)⟩
end Go.Proofs.YtbbnjpnpgcjelaaDoor.QStm
