/- The row of the law OptsLast: whatever its arguments, it answers true, and they read as they did. Out of Pure.OptsLast and the walk. -/
import Derived.Test.YtljlhknpfnphnaaRows
import Derived.Test.YtljlhknpfnphnaaQLast
import Derived.Test.YtljlhknpfnphnaaPureOptsLast
import Derived.Test.YtljlhknpfnphnaaVRow3
import Derived.WalkKit
import Derived.ProofKit
import Derived.OpenShut
import Derived.ShutString
import Derived.ChangeOld
import Derived.Below
import Derived.SizedLaws
namespace Go.Proofs.Ytljlhknpfnphnaa.optsLast
open Go.ChangeShapes Go.WideShapes Go.ChangeAt Go.RowKit Go.Proofs.YtljlhknpfnphnaaW.VRow Go.Proofs.YtljlhknpfnphnaaW.VRow3 Go.Proofs.YtljlhknpfnphnaaW.PrintWords
open Go.ChangeMaps (open_string shut_string)
set_option linter.unusedVariables false
theorem own : ownKnob Try.prog.godebug = none := by kernel_rfl
theorem laidOut : laidOutB Try.prog = true := by kernel_rfl
theorem flat9 : Flat Try.prog 9 [FK.str] := Flat.str Try.underlying9
theorem tells5 : TellsQ Try.prog 5 (Kd.int .u8) (fun x : Int => (Lit.int .u8 x).wf = true) := TellsQ.int Try.underlying5
theorem tells9 : TellsQ Try.prog 9 Kd.string (fun x : ByteArray => x.size ≤ maxLen) := TellsQ.str Try.underlying9
theorem tells36 : TellsQ Try.prog 36 QOpts.k36 (fun x : QOpts.S36 => ((Lit.int .u8 x.f0).wf = true) ∧ (x.f1.size ≤ maxLen)) := TellsQ.iso (TellsQ.structA Try.underlying36 (by kernel_rfl) (TellsFQ.cons rfl (by kernel_rfl) tells5 (TellsFQ.one rfl (by kernel_rfl) tells9))) (fun x : QOpts.S36 => (x.f0, x.f1)) (fun p => ⟨p.1, p.2⟩) (fun _ => rfl)
theorem tells26 : TellsQ Try.prog 26 (Kd.slice 36 QOpts.k36) (fun x : List _ => ∀ y36 ∈ x, ((Lit.int .u8 y36.f0).wf = true) ∧ (y36.f1.size ≤ maxLen)) := TellsQ.slice Try.underlying26 tells36 (by kernel_rfl)
set_option maxRecDepth 100000 in
theorem lifted (os : Os) (started : os.Started) (H : Type) (enc : TypeId × Value → H) :
    ReturnsInHanded {} Try.checked os 6 .any (Rows.optsLastSpec.pre6 enc Try.prog Try.f6 Rows.optsLastRow.domain false) (Rows.optsLastSpec.post enc Try.prog Try.f6 false true false false) := by
  refine returnsInHanded_of_change_sized (C := Try.checked) own started (by kernel_rfl) Try.func6
    (ChangeSpec.witness6 (enc := enc) (C := Try.checked) false ⟨#[], #[.slice none 0 0, .string ByteArray.empty], []⟩ 8 (by kernel_rfl) (by kernel_rfl) (by kernel_rfl) (by kernel_rfl)) ?_
  intro W base args ds gs before hval0 hW hcnd hsz0 _
  have hsz : (DataW.weightsEach Try.prog (Try.f6.params.toList ++ Rows.optsLastSpec.plain.varTypes Try.prog) (ds ++ gs)).all (· ≤ reachBytes) = true := hsz0
  have hval : ∀ (j : Nat) t v, Try.f6.params[j]? = some t → args[j]? = some v → Value.okWide Try.prog W .any base t v := hval0
  have hW' := hW
  obtain ⟨p, q, hA0, hV, rfl, hfz, hnd⟩ := hW
  have hA : DataW.TrodAll enc Try.prog W 0 (fun _ => true) true Try.f6.params.toList args.toList ds p := hA0
  rw [Try.params6] at hA hval hsz
  obtain ⟨v0, vs0, d0, ds0, p0, q0, hargs, rfl, rfl, h0, r0⟩ := trodAll_cons hA
  obtain ⟨v1, vs1, d1, ds1, p1, q1, rfl, rfl, rfl, h1, r1⟩ := trodAll_cons r0
  obtain ⟨rfl, rfl, rfl⟩ := trodAll_nil r1
  obtain rfl : args = #[v0, v1] := by cases args; simp_all
  obtain ⟨rfl, rfl⟩ := trodVars_none hV
  obtain ⟨A0, n0, c0, rfl⟩ := okWide_slice Try.underlying26 (hval 0 26 v0 rfl rfl)
  have k0 := h0
  have lt0 : ∀ x ∈ p0, x.block < W.heap.size := by obtain ⟨m, hm⟩ := k0; exact DataW.trod_lt m _ _ _ hm
  obtain ⟨l0, C0, rfl, le0, w0⟩ := open_toldQ tells26 h0
  obtain ⟨a1, rfl, rfl, rfl, w1⟩ := open_string Try.underlying9 (hval 1 9 v1 rfl rfl) h1
  clear hA0 hval0 hsz0 hsz
  obtain ⟨k, hk⟩ := Pure.OptsLast l0 a1 w0 w1
  refine (QOpts.domesdaylaw13_OptsLast.calls k A0 c0 l0 a1 true W C0 le0 hk).mono fun e W' ⟨he, bel0⟩ => ?_
  have bel : Below W.heap.size W W' := bel0
  subst he
  exact ⟨_, rfl, _, _, _, [], _, [], hW', trodAll_mk1 (shut_bool Try.underlying4 _), (trodAll_cons_mk (Below.trod laidOut (by kernel_rfl) (of_decide_eq_true (by kernel_rfl)) k0 bel lt0) (trodAll_cons_mk (shut_string Try.underlying9 w1) trodAll_mk0)), rfl, bel.frame _, fun h => by cases h⟩
theorem over : Rows.optsLastRow.holds Try.pinned (OpenSpec.ofChange Rows.optsLastSpec) :=
  OpenClaim.holds_of_wide 6 Try.f6 rfl rfl rfl rfl rfl rfl rfl ⟨rfl, rfl, rfl, rfl, rfl⟩ rfl rfl rfl rfl rfl (by kernel_rfl) Try.func6 (by kernel_rfl)
    (of_decide_eq_true (by kernel_rfl)) (by unfold Func.isWrapper; first | (rw [if_pos (by decide +kernel)]; kernel_rfl) | (rw [if_neg (by decide +kernel)]; exact ⟨rfl, rfl⟩))
    (fun os started H enc _ => lifted os started H enc)
theorem proved : Rows.OptsLastSaid := over
#print axioms proved
end Go.Proofs.Ytljlhknpfnphnaa.optsLast
namespace Go.Proofs.Ytljlhknpfnphnaa
/-- The row, under a short name, for the claim. -/
theorem optsLast_holds : Rows.OptsLastSaid := optsLast.proved
end Go.Proofs.Ytljlhknpfnphnaa
