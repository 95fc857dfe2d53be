/- The row of the law VfsMany: whatever its arguments, it answers true, and they read as they did. Out of Pure.VfsMany and the walk. -/
import Derived.Test.YtlfldoghomnbkaaRows
import Derived.Test.YtlfldoghomnbkaaQMany
import Derived.Test.YtlfldoghomnbkaaPureVfsMany
import Derived.Test.YtlfldoghomnbkaaVRow3
import Derived.WalkKit
import Derived.ProofKit
import Derived.OpenShut
import Derived.ShutString
import Derived.ChangeOld
import Derived.Below
import Derived.SizedLaws
namespace Go.Proofs.Ytlfldoghomnbkaa.vfsMany
open Go.ChangeShapes Go.WideShapes Go.ChangeAt Go.RowKit Go.Proofs.YtlfldoghomnbkaaW.VRow Go.Proofs.YtlfldoghomnbkaaW.VRow3 Go.Proofs.YtlfldoghomnbkaaW.PrintWords
open Go.ChangeMaps (open_string shut_string)
set_option linter.unusedVariables false
theorem own : ownKnob Try.prog.godebug = none := by kernel_rfl
theorem laidOut : laidOutB Try.prog = true := by kernel_rfl
theorem flat4 : Flat Try.prog 4 [FK.bool] := Flat.bool Try.underlying4
theorem tells27 : TellsQ Try.prog 27 (Kd.int .u32) (fun x : Int => (Lit.int .u32 x).wf = true) := TellsQ.int Try.underlying27
theorem tells24 : TellsQ Try.prog 24 (Kd.slice 27 (Kd.int .u32)) (fun x : List _ => ∀ y27 ∈ x, (Lit.int .u32 y27).wf = true) := TellsQ.slice Try.underlying24 tells27 (by kernel_rfl)
set_option maxRecDepth 100000 in
theorem lifted (os : Os) (started : os.Started) (H : Type) (enc : TypeId × Value → H) :
    ReturnsInHanded {} Try.checked os 4 .any (Rows.vfsManySpec.pre6 enc Try.prog Try.f4 Rows.vfsManyRow.domain false) (Rows.vfsManySpec.post enc Try.prog Try.f4 false true false false) := by
  refine returnsInHanded_of_change_sized (C := Try.checked) own started (by kernel_rfl) Try.func4
    (ChangeSpec.witness6 (enc := enc) (C := Try.checked) false ⟨#[], #[.bool false, .slice none 0 0], []⟩ 8 (by kernel_rfl) (by kernel_rfl) (by kernel_rfl) (by kernel_rfl)) ?_
  intro W base args ds gs before hval0 hW hcnd hsz0 _
  have hsz : (DataW.weightsEach Try.prog (Try.f4.params.toList ++ Rows.vfsManySpec.plain.varTypes Try.prog) (ds ++ gs)).all (· ≤ reachBytes) = true := hsz0
  have hval : ∀ (j : Nat) t v, Try.f4.params[j]? = some t → args[j]? = some v → Value.okWide Try.prog W .any base t v := hval0
  have hW' := hW
  obtain ⟨p, q, hA0, hV, rfl, hfz, hnd⟩ := hW
  have hA : DataW.TrodAll enc Try.prog W 0 (fun _ => true) true Try.f4.params.toList args.toList ds p := hA0
  rw [Try.params4] at hA hval hsz
  obtain ⟨v0, vs0, d0, ds0, p0, q0, hargs, rfl, rfl, h0, r0⟩ := trodAll_cons hA
  obtain ⟨v1, vs1, d1, ds1, p1, q1, rfl, rfl, rfl, h1, r1⟩ := trodAll_cons r0
  obtain ⟨rfl, rfl, rfl⟩ := trodAll_nil r1
  obtain rfl : args = #[v0, v1] := by cases args; simp_all
  obtain ⟨rfl, rfl⟩ := trodVars_none hV
  obtain ⟨a0, rfl, rfl, rfl⟩ := open_bool Try.underlying4 (hval 0 4 v0 rfl rfl) h0
  obtain ⟨A1, n1, c1, rfl⟩ := okWide_slice Try.underlying24 (hval 1 24 v1 rfl rfl)
  have k1 := h1
  have lt1 : ∀ x ∈ p1, x.block < W.heap.size := by obtain ⟨m, hm⟩ := k1; exact DataW.trod_lt m _ _ _ hm
  obtain ⟨l1, C1, rfl, le1, w1⟩ := open_toldQ tells24 h1
  clear hA0 hval0 hsz0 hsz
  have hk := Pure.VfsMany a0 l1 w1
  refine (QVfs.domesdaylaw06_VfsMany.calls a0 A1 c1 l1 true W C1 le1 hk).mono fun e W' ⟨he, bel0⟩ => ?_
  have bel : Below W.heap.size W W' := bel0
  subst he
  exact ⟨_, rfl, _, _, _, [], _, [], hW', trodAll_mk1 (shut_bool Try.underlying4 _), (trodAll_cons_mk (shut_bool Try.underlying4 _) (trodAll_cons_mk (Below.trod laidOut (by kernel_rfl) (of_decide_eq_true (by kernel_rfl)) k1 bel lt1) trodAll_mk0)), rfl, bel.frame _, fun h => by cases h⟩
theorem over : Rows.vfsManyRow.holds Try.pinned (OpenSpec.ofChange Rows.vfsManySpec) :=
  OpenClaim.holds_of_wide 4 Try.f4 rfl rfl rfl rfl rfl rfl rfl ⟨rfl, rfl, rfl, rfl, rfl⟩ rfl rfl rfl rfl rfl (by kernel_rfl) Try.func4 (by kernel_rfl)
    (of_decide_eq_true (by kernel_rfl)) (by unfold Func.isWrapper; first | (rw [if_pos (by decide +kernel)]; kernel_rfl) | (rw [if_neg (by decide +kernel)]; exact ⟨rfl, rfl⟩))
    (fun os started H enc _ => lifted os started H enc)
theorem proved : Rows.VfsManySaid := over
#print axioms proved
end Go.Proofs.Ytlfldoghomnbkaa.vfsMany
namespace Go.Proofs.Ytlfldoghomnbkaa
/-- The row, under a short name, for the claim. -/
theorem vfsMany_holds : Rows.VfsManySaid := vfsMany.proved
end Go.Proofs.Ytlfldoghomnbkaa
