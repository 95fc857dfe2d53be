/- The row of the law OptsReads: whatever its arguments, it answers true, and they read as they did. Out of Pure.OptsReads and the walk. -/
import Derived.Test.YtljlhknpfnphnaaRows
import Derived.Test.YtljlhknpfnphnaaQReads
import Derived.Test.YtljlhknpfnphnaaPureOptsReads
import Derived.Test.YtljlhknpfnphnaaVRow2
import Derived.WalkKit
import Derived.ProofKit
import Derived.OpenShut
import Derived.ShutString
import Derived.ChangeOld
import Derived.Below
import Derived.SizedLaws
namespace Go.Proofs.Ytljlhknpfnphnaa.optsReads
open Go.ChangeShapes Go.WideShapes Go.ChangeAt Go.RowKit Go.Proofs.YtljlhknpfnphnaaW.VRow Go.Proofs.YtljlhknpfnphnaaW.PrintWords
open Go.ChangeMaps (open_string shut_string)
set_option linter.unusedVariables false
theorem own : ownKnob Try.prog.godebug = none := by kernel_rfl
theorem laidOut : laidOutB Try.prog = true := by kernel_rfl
theorem tells5 : Tells Try.prog 5 (Kd.int .u8) := Tells.int Try.underlying5
theorem tells9 : Tells Try.prog 9 Kd.string := Tells.str Try.underlying9
theorem tells4 : Tells Try.prog 4 Kd.bool := Tells.bool Try.underlying4
theorem tells42 : Tells Try.prog 42 QOpts.k42 := Tells.iso (Tells.structA Try.underlying42 (by kernel_rfl) (TellsF.cons rfl (by kernel_rfl) tells5 (TellsF.cons rfl (by kernel_rfl) tells9 (TellsF.one rfl (by kernel_rfl) tells4)))) (fun x : QOpts.S42 => (x.f0, x.f1, x.f2)) (fun p => ⟨p.1, p.2.1, p.2.2⟩) (fun _ => rfl)
theorem tells22 : Tells Try.prog 22 (Kd.slice 42 QOpts.k42) := Tells.slice Try.underlying22 tells42 (by kernel_rfl)
theorem tells23 : Tells Try.prog 23 (Kd.slice 9 Kd.string) := Tells.slice Try.underlying23 tells9 (by kernel_rfl)
set_option maxRecDepth 100000 in
theorem lifted (os : Os) (started : os.Started) (H : Type) (enc : TypeId × Value → H) :
    ReturnsInHanded {} Try.checked os 4 .any (Rows.optsReadsSpec.pre6 enc Try.prog Try.f4 Rows.optsReadsRow.domain false) (Rows.optsReadsSpec.post enc Try.prog Try.f4 false true false false) := by
  refine returnsInHanded_of_change_sized (C := Try.checked) own started (by kernel_rfl) Try.func4
    (ChangeSpec.witness6 (enc := enc) (C := Try.checked) false ⟨#[], #[.slice none 0 0, .slice none 0 0], []⟩ 8 (by kernel_rfl) (by kernel_rfl) (by kernel_rfl) (by kernel_rfl)) ?_
  intro W base args ds gs before hval0 hW hcnd hsz0 _
  have hsz : (DataW.weightsEach Try.prog (Try.f4.params.toList ++ Rows.optsReadsSpec.plain.varTypes Try.prog) (ds ++ gs)).all (· ≤ reachBytes) = true := hsz0
  have hval : ∀ (j : Nat) t v, Try.f4.params[j]? = some t → args[j]? = some v → Value.okWide Try.prog W .any base t v := hval0
  have hW' := hW
  obtain ⟨p, q, hA0, hV, rfl, hfz, hnd⟩ := hW
  have hA : DataW.TrodAll enc Try.prog W 0 (fun _ => true) true Try.f4.params.toList args.toList ds p := hA0
  rw [Try.params4] at hA hval hsz
  obtain ⟨v0, vs0, d0, ds0, p0, q0, hargs, rfl, rfl, h0, r0⟩ := trodAll_cons hA
  obtain ⟨v1, vs1, d1, ds1, p1, q1, rfl, rfl, rfl, h1, r1⟩ := trodAll_cons r0
  obtain ⟨rfl, rfl, rfl⟩ := trodAll_nil r1
  obtain rfl : args = #[v0, v1] := by cases args; simp_all
  obtain ⟨rfl, rfl⟩ := trodVars_none hV
  obtain ⟨A0, n0, c0, rfl⟩ := okWide_slice Try.underlying22 (hval 0 22 v0 rfl rfl)
  have k0 := h0
  have lt0 : ∀ x ∈ p0, x.block < W.heap.size := by obtain ⟨m, hm⟩ := k0; exact DataW.trod_lt m _ _ _ hm
  obtain ⟨l0, C0, rfl, le0⟩ := open_told tells22 h0
  obtain ⟨A1, n1, c1, rfl⟩ := okWide_slice Try.underlying23 (hval 1 23 v1 rfl rfl)
  have k1 := h1
  have lt1 : ∀ x ∈ p1, x.block < W.heap.size := by obtain ⟨m, hm⟩ := k1; exact DataW.trod_lt m _ _ _ hm
  obtain ⟨l1, C1, rfl, le1⟩ := open_told tells23 h1
  clear hA0 hval0 hsz0 hsz
  obtain ⟨k, hk⟩ := Pure.OptsReads l0 l1 
  refine (QOpts.domesdaylaw13_OptsReads.calls k A0 c0 l0 A1 c1 l1 true W C0 le0 C1 le1 hk).mono fun e W' ⟨he, bel0⟩ => ?_
  have bel : Below W.heap.size W W' := bel0
  subst he
  exact ⟨_, rfl, _, _, _, [], _, [], hW', trodAll_mk1 (shut_bool Try.underlying4 _), (trodAll_cons_mk (Below.trod laidOut (by kernel_rfl) (of_decide_eq_true (by kernel_rfl)) k0 bel lt0) (trodAll_cons_mk (Below.trod laidOut (by kernel_rfl) (of_decide_eq_true (by kernel_rfl)) k1 bel lt1) trodAll_mk0)), rfl, bel.frame _, fun h => by cases h⟩
theorem over : Rows.optsReadsRow.holds Try.pinned (OpenSpec.ofChange Rows.optsReadsSpec) :=
  OpenClaim.holds_of_wide 4 Try.f4 rfl rfl rfl rfl rfl rfl rfl ⟨rfl, rfl, rfl, rfl, rfl⟩ rfl rfl rfl rfl rfl (by kernel_rfl) Try.func4 (by kernel_rfl)
    (of_decide_eq_true (by kernel_rfl)) (by unfold Func.isWrapper; first | (rw [if_pos (by decide +kernel)]; kernel_rfl) | (rw [if_neg (by decide +kernel)]; exact ⟨rfl, rfl⟩))
    (fun os started H enc _ => lifted os started H enc)
theorem proved : Rows.OptsReadsSaid := over
#print axioms proved
end Go.Proofs.Ytljlhknpfnphnaa.optsReads
namespace Go.Proofs.Ytljlhknpfnphnaa
/-- The row, under a short name, for the claim. -/
theorem optsReads_holds : Rows.OptsReadsSaid := optsReads.proved
end Go.Proofs.Ytljlhknpfnphnaa
