import Derived.Test.YtlfldoghomnbkaaSXVf10
import Derived.Test.YtlfldoghomnbkaaSXVfC
-- Texts of this seat, what the claim does not reach struck out by a program.
namespace Go.Proofs.Ytlfldoghomnbkaa.QVfs
open Go.RowKit Go.Proofs.YtlfldoghomnbkaaW.PrintWords Go.Proofs.YtlfldoghomnbkaaW.PrintLast Go.Proofs.YtlfldoghomnbkaaW.PrintMore
set_option linter.unusedVariables false
set_option linter.unusedSimpArgs false
set_option maxHeartbeats 4000000 in
set_option maxRecDepth 100000 in
theorem awake_calls (w : World) :
  Calls Try.prog 8 #[] w fun e w' => e = .returned (.bool true) ∧ Below w.heap.size w w' := by
 go_enter Try.func8, Try.ntmps8
 go_wp2_with fail
 refine (new_calls w).mono ?_
 rintro e w1 ⟨rfl, h1, k1⟩
 have HF := Aside0.mk h1
 have HB := Aside0.mk k1
 clear h1 k1
 go_wp2_with fail
 refine (chgA_calls _ _ _ w1 HF.out).mono ?_
 rintro e w2 ⟨n, x, rfl, rfl, rfl, h2, k2⟩
 have HB2 := Aside0.mk (HB.out.trans (k2.under (fun k hk => by omega) HB.out.size))
 have HR2 := Aside0.mk h2.read
 clear h2 k2
 go_wp2_with fail
 refine (count_calls _ _ w2 HR2.out).mono ?_
 rintro e w3 ⟨rfl, rfl⟩
 go_wp2_with fail
 go_ret
 exact ⟨rfl, HB2.out⟩
end Go.Proofs.Ytlfldoghomnbkaa.QVfs
