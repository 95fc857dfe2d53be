import Derived.Test.YtcbjkfhflmlniaaDoorKXPa6
-- Texts of this seat, what the claim does not reach struck out by a program.
namespace Go.Proofs.YtcbjkfhflmlniaaDoor.QVfs
open Go.RowKit Go.Proofs.YtcbjkfhflmlniaaDoorW.PrintWords Go.Proofs.YtcbjkfhflmlniaaDoorW.PrintLast Go.Proofs.YtcbjkfhflmlniaaDoorW.PrintMore
set_option linter.unusedVariables false
set_option linter.unusedSimpArgs false
theorem awake_len : (namesOf ⟨#[47, 97, 47, 47, 98, 47]⟩).length = 2 ∧ begins ⟨#[47, 97, 47, 47, 98, 47]⟩ = true ∧ ends ⟨#[47, 97, 47, 47, 98, 47]⟩ = true := by decide +kernel
set_option maxHeartbeats 4000000 in
set_option maxRecDepth 100000 in
theorem awake_calls (w : World) : Calls Tryd.prog 7 #[] w fun e w' => e = .returned (.bool true) ∧ Below w.heap.size w w' := by
 have hN := names_calls ⟨#[47, 97, 47, 47, 98, 47]⟩ (by decide) w
 obtain ⟨hl, h1, h2⟩ := awake_len
 rw [h1, h2] at hN
 have HN := Aside0.mk hN
 have HL := Aside0.mk hl
 clear hN hl h1 h2
 go_enter Tryd.func7, Tryd.ntmps7
 go_wp2_with fail
 refine HN.out.mono ?_
 rintro e w1 ⟨v, rfl, hR, hb⟩
 obtain ⟨A, c, rfl⟩ := Kd.R_slice hR
 rw [HL.out]
 have HB := Aside0.mk hb
 clear hR hb HN
 go_wp2_with fail
 go_ret
 exact ⟨rfl, HB.out⟩
theorem w8 (x : Int) (h0 : 0 ≤ x) (h1 : x ≤ 255) : IntKind.u8.wrap x = x := by
 show x % 256 = x
 omega
end Go.Proofs.YtcbjkfhflmlniaaDoor.QVfs
