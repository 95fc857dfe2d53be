/- The row of the law PermTexts: whatever its arguments, it answers true, and they read as they did. Out of Pure.PermTexts and the walk. -/
import Derived.Test.YtngcecmfgjgigaaRows
import Derived.Test.YtngcecmfgjgigaaQPermTextsx4
import Derived.Test.YtngcecmfgjgigaaPurePermTexts
import Derived.Test.YtngcecmfgjgigaaVRow
import Derived.WalkKit
import Derived.ProofKit
import Derived.OpenShut
import Derived.ShutString
import Derived.ChangeOld
import Derived.Below
import Derived.SizedLaws
namespace Go.Proofs.Ytngcecmfgjgigaa.permTexts
open Go.ChangeShapes Go.WideShapes Go.ChangeAt Go.RowKit Go.Proofs.YtngcecmfgjgigaaW.VRow
open Go.ChangeMaps (open_string shut_string)
set_option linter.unusedVariables false
theorem own : ownKnob Try.prog.godebug = none := by kernel_rfl
theorem laidOut : laidOutB Try.prog = true := by kernel_rfl
theorem flat3 : Flat Try.prog 3 [FK.int .i64] := Flat.int Try.underlying3
theorem flat2 : Flat Try.prog 2 [FK.int .i64] := Flat.int Try.underlying2
theorem flat22 : Flat Try.prog 22 [FK.int .i64, FK.int .i64, FK.int .i64] := Flat.array Try.underlying22 flat2 (by kernel_rfl) (by kernel_rfl)
theorem flat9 : Flat Try.prog 9 [FK.str] := Flat.str Try.underlying9
theorem flat24 : Flat Try.prog 24 [FK.int .i64, FK.int .i64, FK.int .i64, FK.int .i64, FK.int .i64, FK.int .i64, FK.int .i64, FK.int .i64, FK.int .i64, FK.int .i64, FK.int .i64, FK.int .i64, FK.str] := by
  refine Flat.struct (kss := [[FK.int .i64], [FK.int .i64], [FK.int .i64], [FK.int .i64], [FK.int .i64], [FK.int .i64], [FK.int .i64], [FK.int .i64], [FK.int .i64], [FK.int .i64, FK.int .i64, FK.int .i64], [FK.str]]) Try.underlying24 ⟨rfl, ?_⟩ (by kernel_rfl)
  intro i hi
  match i, hi with
  | 0, _ => exact ⟨_, rfl, rfl, by kernel_rfl, flat3⟩
  | 1, _ => exact ⟨_, rfl, rfl, by kernel_rfl, flat3⟩
  | 2, _ => exact ⟨_, rfl, rfl, by kernel_rfl, flat3⟩
  | 3, _ => exact ⟨_, rfl, rfl, by kernel_rfl, flat3⟩
  | 4, _ => exact ⟨_, rfl, rfl, by kernel_rfl, flat3⟩
  | 5, _ => exact ⟨_, rfl, rfl, by kernel_rfl, flat3⟩
  | 6, _ => exact ⟨_, rfl, rfl, by kernel_rfl, flat2⟩
  | 7, _ => exact ⟨_, rfl, rfl, by kernel_rfl, flat2⟩
  | 8, _ => exact ⟨_, rfl, rfl, by kernel_rfl, flat3⟩
  | 9, _ => exact ⟨_, rfl, rfl, by kernel_rfl, flat22⟩
  | 10, _ => exact ⟨_, rfl, rfl, by kernel_rfl, flat9⟩
  | i + 11, hi => simp at hi; omega
set_option maxRecDepth 100000 in
theorem lifted (os : Os) (started : os.Started) (H : Type) (enc : TypeId × Value → H) :
    ReturnsInHanded {} Try.checked os 3 .any (Rows.permTextsSpec.pre6 enc Try.prog Try.f3 Rows.permTextsRow.domain false) (Rows.permTextsSpec.post enc Try.prog Try.f3 false true false false) := by
  refine returnsInHanded_of_change_sized (C := Try.checked) own started (by kernel_rfl) Try.func3
    (ChangeSpec.witness6 (enc := enc) (C := Try.checked) false ⟨#[], #[.agg #[.int .i64 0, .int .i64 0, .int .i64 0, .int .i64 0, .int .i64 0, .int .i64 0, .int .i64 0, .int .i64 0, .int .i64 0, .int .i64 0, .int .i64 0, .int .i64 0, .string ByteArray.empty]], []⟩ 8 (by kernel_rfl) (by kernel_rfl) (by kernel_rfl) (by kernel_rfl)) ?_
  intro W base args ds gs before hval0 hW hcnd hsz0 _
  have hsz : (DataW.weightsEach Try.prog (Try.f3.params.toList ++ Rows.permTextsSpec.plain.varTypes Try.prog) (ds ++ gs)).all (· ≤ reachBytes) = true := hsz0
  have hval : ∀ (j : Nat) t v, Try.f3.params[j]? = some t → args[j]? = some v → Value.okWide Try.prog W .any base t v := hval0
  have hW' := hW
  obtain ⟨p, q, hA0, hV, rfl, hfz, hnd⟩ := hW
  have hA : DataW.TrodAll enc Try.prog W 0 (fun _ => true) true Try.f3.params.toList args.toList ds p := hA0
  rw [Try.params3] at hA hval hsz
  obtain ⟨v0, vs0, d0, ds0, p0, q0, hargs, rfl, rfl, h0, r0⟩ := trodAll_cons hA
  obtain ⟨rfl, rfl, rfl⟩ := trodAll_nil r0
  obtain rfl : args = #[v0] := by cases args; simp_all
  obtain ⟨rfl, rfl⟩ := trodVars_none hV
  obtain ⟨cs0, rfl, f0, rfl⟩ := open_flat (by obtain ⟨cs, hc, _⟩ := okWide_struct Try.underlying24 (hval 0 24 v0 rfl rfl); exact ⟨cs, hc⟩) flat24 h0
  obtain ⟨c, cs0, rfl, ⟨x0_0, rfl, w0_0⟩, f0⟩ := f0
  obtain ⟨c, cs0, rfl, ⟨x0_1, rfl, w0_1⟩, f0⟩ := f0
  obtain ⟨c, cs0, rfl, ⟨x0_2, rfl, w0_2⟩, f0⟩ := f0
  obtain ⟨c, cs0, rfl, ⟨x0_3, rfl, w0_3⟩, f0⟩ := f0
  obtain ⟨c, cs0, rfl, ⟨x0_4, rfl, w0_4⟩, f0⟩ := f0
  obtain ⟨c, cs0, rfl, ⟨x0_5, rfl, w0_5⟩, f0⟩ := f0
  obtain ⟨c, cs0, rfl, ⟨x0_6, rfl, w0_6⟩, f0⟩ := f0
  obtain ⟨c, cs0, rfl, ⟨x0_7, rfl, w0_7⟩, f0⟩ := f0
  obtain ⟨c, cs0, rfl, ⟨x0_8, rfl, w0_8⟩, f0⟩ := f0
  obtain ⟨c, cs0, rfl, ⟨x0_9, rfl, w0_9⟩, f0⟩ := f0
  obtain ⟨c, cs0, rfl, ⟨x0_10, rfl, w0_10⟩, f0⟩ := f0
  obtain ⟨c, cs0, rfl, ⟨x0_11, rfl, w0_11⟩, f0⟩ := f0
  obtain ⟨c, cs0, rfl, ⟨x0_12, rfl, w0_12⟩, f0⟩ := f0
  obtain rfl : cs0 = [] := f0
  clear hA0 hval0 hsz0 hsz
  obtain ⟨k, hk⟩ := Pure.PermTexts x0_0 x0_1 x0_2 x0_3 x0_4 x0_5 x0_6 x0_7 x0_8 x0_9 x0_10 x0_11 x0_12 
  refine (QPermTexts.domesdaylaw07_PermTexts.calls k x0_0 x0_1 x0_2 x0_3 x0_4 x0_5 x0_6 x0_7 x0_8 x0_9 x0_10 x0_11 x0_12 true W hk).mono fun e W' ⟨he, bel0⟩ => ?_
  have bel : Below W.heap.size W W' := bel0
  subst he
  exact ⟨_, rfl, _, _, _, [], _, [], hW', trodAll_mk1 (shut_bool Try.underlying4 _), (trodAll_cons_mk (stays_flat laidOut (by kernel_rfl) (of_decide_eq_true (by kernel_rfl)) h0 bel) trodAll_mk0), rfl, bel.frame _, fun h => by cases h⟩
theorem over : Rows.permTextsRow.holds Try.pinned (OpenSpec.ofChange Rows.permTextsSpec) :=
  OpenClaim.holds_of_wide 3 Try.f3 rfl rfl rfl rfl rfl rfl rfl ⟨rfl, rfl, rfl, rfl, rfl⟩ rfl rfl rfl rfl rfl (by kernel_rfl) Try.func3 (by kernel_rfl)
    (of_decide_eq_true (by kernel_rfl)) (by unfold Func.isWrapper; first | (rw [if_pos (by decide +kernel)]; kernel_rfl) | (rw [if_neg (by decide +kernel)]; exact ⟨rfl, rfl⟩))
    (fun os started H enc _ => lifted os started H enc)
theorem proved : Rows.PermTextsSaid := over
#print axioms proved
end Go.Proofs.Ytngcecmfgjgigaa.permTexts
namespace Go.Proofs.Ytngcecmfgjgigaa
/-- The row, under a short name, for the claim. -/
theorem permTexts_holds : Rows.PermTextsSaid := permTexts.proved
end Go.Proofs.Ytngcecmfgjgigaa
