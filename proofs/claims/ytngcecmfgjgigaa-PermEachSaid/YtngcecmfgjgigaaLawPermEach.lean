/- The row of the law PermEach: whatever its arguments, it answers true, and they read as they did. Out of Pure.PermEach and the walk. -/
import Derived.Test.YtngcecmfgjgigaaRows
import Derived.Test.YtngcecmfgjgigaaQPermEachx1
import Derived.Test.YtngcecmfgjgigaaPurePermEach
import Derived.Test.YtngcecmfgjgigaaVRow
import Derived.WalkKit
import Derived.ProofKit
import Derived.OpenShut
import Derived.ShutString
import Derived.ChangeOld
import Derived.Below
import Derived.SizedLaws
namespace Go.Proofs.Ytngcecmfgjgigaa.permEach
open Go.ChangeShapes Go.WideShapes Go.ChangeAt Go.RowKit Go.Proofs.YtngcecmfgjgigaaW.VRow
open Go.ChangeMaps (open_string shut_string)
set_option linter.unusedVariables false
theorem own : ownKnob Try.prog.godebug = none := by kernel_rfl
theorem laidOut : laidOutB Try.prog = true := by kernel_rfl
theorem flat3 : Flat Try.prog 3 [FK.int .i64] := Flat.int Try.underlying3
theorem flat2 : Flat Try.prog 2 [FK.int .i64] := Flat.int Try.underlying2
theorem flat22 : Flat Try.prog 22 [FK.int .i64, FK.int .i64, FK.int .i64] := Flat.array Try.underlying22 flat2 (by kernel_rfl) (by kernel_rfl)
theorem flat9 : Flat Try.prog 9 [FK.str] := Flat.str Try.underlying9
theorem flat24 : Flat Try.prog 24 [FK.int .i64, FK.int .i64, FK.int .i64, FK.int .i64, FK.int .i64, FK.int .i64, FK.int .i64, FK.int .i64, FK.int .i64, FK.int .i64, FK.int .i64, FK.int .i64, FK.str] := by
  refine Flat.struct (kss := [[FK.int .i64], [FK.int .i64], [FK.int .i64], [FK.int .i64], [FK.int .i64], [FK.int .i64], [FK.int .i64], [FK.int .i64], [FK.int .i64], [FK.int .i64, FK.int .i64, FK.int .i64], [FK.str]]) Try.underlying24 ⟨rfl, ?_⟩ (by kernel_rfl)
  intro i hi
  match i, hi with
  | 0, _ => exact ⟨_, rfl, rfl, by kernel_rfl, flat3⟩
  | 1, _ => exact ⟨_, rfl, rfl, by kernel_rfl, flat3⟩
  | 2, _ => exact ⟨_, rfl, rfl, by kernel_rfl, flat3⟩
  | 3, _ => exact ⟨_, rfl, rfl, by kernel_rfl, flat3⟩
  | 4, _ => exact ⟨_, rfl, rfl, by kernel_rfl, flat3⟩
  | 5, _ => exact ⟨_, rfl, rfl, by kernel_rfl, flat3⟩
  | 6, _ => exact ⟨_, rfl, rfl, by kernel_rfl, flat2⟩
  | 7, _ => exact ⟨_, rfl, rfl, by kernel_rfl, flat2⟩
  | 8, _ => exact ⟨_, rfl, rfl, by kernel_rfl, flat3⟩
  | 9, _ => exact ⟨_, rfl, rfl, by kernel_rfl, flat22⟩
  | 10, _ => exact ⟨_, rfl, rfl, by kernel_rfl, flat9⟩
  | i + 11, hi => simp at hi; omega
theorem flat29 : Flat Try.prog 29 [FK.int .i64, FK.int .i64] := by
  refine Flat.struct (kss := [[FK.int .i64], [FK.int .i64]]) Try.underlying29 ⟨rfl, ?_⟩ (by kernel_rfl)
  intro i hi
  match i, hi with
  | 0, _ => exact ⟨_, rfl, rfl, by kernel_rfl, flat3⟩
  | 1, _ => exact ⟨_, rfl, rfl, by kernel_rfl, flat3⟩
  | i + 2, hi => simp at hi; omega
theorem flat5 : Flat Try.prog 5 [FK.int .u8] := Flat.int Try.underlying5
theorem flat31 : Flat Try.prog 31 [FK.int .u8, FK.int .u8] := Flat.array Try.underlying31 flat5 (by kernel_rfl) (by kernel_rfl)
set_option maxRecDepth 100000 in
theorem lifted (os : Os) (started : os.Started) (H : Type) (enc : TypeId × Value → H) :
    ReturnsInHanded {} Try.checked os 5 .any (Rows.permEachSpec.pre6 enc Try.prog Try.f5 Rows.permEachRow.domain false) (Rows.permEachSpec.post enc Try.prog Try.f5 false true false false) := by
  refine returnsInHanded_of_change_sized (C := Try.checked) own started (by kernel_rfl) Try.func5
    (ChangeSpec.witness6 (enc := enc) (C := Try.checked) false ⟨#[], #[.agg #[.int .i64 0, .int .i64 0, .int .i64 0, .int .i64 0, .int .i64 0, .int .i64 0, .int .i64 0, .int .i64 0, .int .i64 0, .int .i64 0, .int .i64 0, .int .i64 0, .string ByteArray.empty], .agg #[.int .i64 0, .int .i64 0], .agg #[.int .u8 0, .int .u8 0]], []⟩ 8 (by kernel_rfl) (by kernel_rfl) (by kernel_rfl) (by kernel_rfl)) ?_
  intro W base args ds gs before hval0 hW hcnd hsz0 _
  have hsz : (DataW.weightsEach Try.prog (Try.f5.params.toList ++ Rows.permEachSpec.plain.varTypes Try.prog) (ds ++ gs)).all (· ≤ reachBytes) = true := hsz0
  have hval : ∀ (j : Nat) t v, Try.f5.params[j]? = some t → args[j]? = some v → Value.okWide Try.prog W .any base t v := hval0
  have hW' := hW
  obtain ⟨p, q, hA0, hV, rfl, hfz, hnd⟩ := hW
  have hA : DataW.TrodAll enc Try.prog W 0 (fun _ => true) true Try.f5.params.toList args.toList ds p := hA0
  rw [Try.params5] at hA hval hsz
  obtain ⟨v0, vs0, d0, ds0, p0, q0, hargs, rfl, rfl, h0, r0⟩ := trodAll_cons hA
  obtain ⟨v1, vs1, d1, ds1, p1, q1, rfl, rfl, rfl, h1, r1⟩ := trodAll_cons r0
  obtain ⟨v2, vs2, d2, ds2, p2, q2, rfl, rfl, rfl, h2, r2⟩ := trodAll_cons r1
  obtain ⟨rfl, rfl, rfl⟩ := trodAll_nil r2
  obtain rfl : args = #[v0, v1, v2] := by cases args; simp_all
  obtain ⟨rfl, rfl⟩ := trodVars_none hV
  obtain ⟨cs0, rfl, f0, rfl⟩ := open_flat (by obtain ⟨cs, hc, _⟩ := okWide_struct Try.underlying24 (hval 0 24 v0 rfl rfl); exact ⟨cs, hc⟩) flat24 h0
  obtain ⟨c, cs0, rfl, ⟨x0_0, rfl, w0_0⟩, f0⟩ := f0
  obtain ⟨c, cs0, rfl, ⟨x0_1, rfl, w0_1⟩, f0⟩ := f0
  obtain ⟨c, cs0, rfl, ⟨x0_2, rfl, w0_2⟩, f0⟩ := f0
  obtain ⟨c, cs0, rfl, ⟨x0_3, rfl, w0_3⟩, f0⟩ := f0
  obtain ⟨c, cs0, rfl, ⟨x0_4, rfl, w0_4⟩, f0⟩ := f0
  obtain ⟨c, cs0, rfl, ⟨x0_5, rfl, w0_5⟩, f0⟩ := f0
  obtain ⟨c, cs0, rfl, ⟨x0_6, rfl, w0_6⟩, f0⟩ := f0
  obtain ⟨c, cs0, rfl, ⟨x0_7, rfl, w0_7⟩, f0⟩ := f0
  obtain ⟨c, cs0, rfl, ⟨x0_8, rfl, w0_8⟩, f0⟩ := f0
  obtain ⟨c, cs0, rfl, ⟨x0_9, rfl, w0_9⟩, f0⟩ := f0
  obtain ⟨c, cs0, rfl, ⟨x0_10, rfl, w0_10⟩, f0⟩ := f0
  obtain ⟨c, cs0, rfl, ⟨x0_11, rfl, w0_11⟩, f0⟩ := f0
  obtain ⟨c, cs0, rfl, ⟨x0_12, rfl, w0_12⟩, f0⟩ := f0
  obtain rfl : cs0 = [] := f0
  obtain ⟨cs1, rfl, f1, rfl⟩ := open_flat (by obtain ⟨cs, hc, _⟩ := okWide_struct Try.underlying29 (hval 1 29 v1 rfl rfl); exact ⟨cs, hc⟩) flat29 h1
  obtain ⟨c, cs1, rfl, ⟨x1_0, rfl, w1_0⟩, f1⟩ := f1
  obtain ⟨c, cs1, rfl, ⟨x1_1, rfl, w1_1⟩, f1⟩ := f1
  obtain rfl : cs1 = [] := f1
  obtain ⟨cs2, rfl, f2, rfl⟩ := open_flat (by obtain ⟨cs, hc, _⟩ := okWide_array Try.underlying31 (hval 2 31 v2 rfl rfl); exact ⟨cs, hc⟩) flat31 h2
  obtain ⟨c, cs2, rfl, ⟨x2_0, rfl, w2_0⟩, f2⟩ := f2
  obtain ⟨c, cs2, rfl, ⟨x2_1, rfl, w2_1⟩, f2⟩ := f2
  obtain rfl : cs2 = [] := f2
  clear hA0 hval0 hsz0 hsz
  have hk := Pure.PermEach x0_0 x0_1 x0_2 x0_3 x0_4 x0_5 x0_6 x0_7 x0_8 x0_9 x0_10 x0_11 x0_12 x1_0 x1_1 x2_0 x2_1 w0_0 w0_1 w0_2 w0_3 w0_4 w0_5 w0_6 w0_7 w0_8 w0_9 w0_10 w0_11 w0_12 w1_0 w1_1 w2_0 w2_1
  refine (QPermEach.domesdaylaw07_PermEach.calls x0_0 x0_1 x0_2 x0_3 x0_4 x0_5 x0_6 x0_7 x0_8 x0_9 x0_10 x0_11 x0_12 x1_0 x1_1 x2_0 x2_1 true W hk).mono fun e W' ⟨he, bel0⟩ => ?_
  have bel : Below W.heap.size W W' := bel0
  subst he
  exact ⟨_, rfl, _, _, _, [], _, [], hW', trodAll_mk1 (shut_bool Try.underlying4 _), (trodAll_cons_mk (stays_flat laidOut (by kernel_rfl) (of_decide_eq_true (by kernel_rfl)) h0 bel) (trodAll_cons_mk (stays_flat laidOut (by kernel_rfl) (of_decide_eq_true (by kernel_rfl)) h1 bel) (trodAll_cons_mk (stays_flat laidOut (by kernel_rfl) (of_decide_eq_true (by kernel_rfl)) h2 bel) trodAll_mk0))), rfl, bel.frame _, fun h => by cases h⟩
theorem over : Rows.permEachRow.holds Try.pinned (OpenSpec.ofChange Rows.permEachSpec) :=
  OpenClaim.holds_of_wide 5 Try.f5 rfl rfl rfl rfl rfl rfl rfl ⟨rfl, rfl, rfl, rfl, rfl⟩ rfl rfl rfl rfl rfl (by kernel_rfl) Try.func5 (by kernel_rfl)
    (of_decide_eq_true (by kernel_rfl)) (by unfold Func.isWrapper; first | (rw [if_pos (by decide +kernel)]; kernel_rfl) | (rw [if_neg (by decide +kernel)]; exact ⟨rfl, rfl⟩))
    (fun os started H enc _ => lifted os started H enc)
theorem proved : Rows.PermEachSaid := over
#print axioms proved
end Go.Proofs.Ytngcecmfgjgigaa.permEach
namespace Go.Proofs.Ytngcecmfgjgigaa
/-- The row, under a short name, for the claim. -/
theorem permEach_holds : Rows.PermEachSaid := permEach.proved
end Go.Proofs.Ytngcecmfgjgigaa
