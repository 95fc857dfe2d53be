/- The row of the law OrderCompares: whatever its arguments, it answers true, and they read as they did. Out of Pure.OrderCompares and the walk. -/
import Derived.Test.YtnlbjefhbeocmaaDoorRows
import Derived.Test.YtnlbjefhbeocmaaDoorQOrderComparesx7
import Derived.Test.YtnlbjefhbeocmaaDoorPureOrderCompares
import Derived.Test.YtnlbjefhbeocmaaDoorVRow
import Derived.WalkKit
import Derived.ProofKit
import Derived.OpenShut
import Derived.ShutString
import Derived.ChangeOld
import Derived.Below
import Derived.SizedLaws
import Derived.Test.YtnlbjefhbeocmaaDoorCards
import Derived.Test.YtnlbjefhbeocmaaDoorTie
import Derived.Lay
import Derived.LaidOnce
import Derived.SevenTiedAt
import Derived.LaidLaws
import Derived.Handed
namespace Go.Proofs.YtnlbjefhbeocmaaDoor.orderCompares
open Go.ChangeShapes Go.WideShapes Go.ChangeAt Go.RowKit Go.Proofs.YtnlbjefhbeocmaaDoorW.VRow
open Go.ChangeMaps (open_string shut_string)
set_option linter.unusedVariables false
theorem own : ownKnob Tryd.prog.godebug = none := by kernel_rfl
theorem laidOut : laidOutB Tryd.prog = true := by kernel_rfl
theorem flat3 : Flat Tryd.prog 3 [FK.int .i64] := Flat.int Tryd.underlying3
theorem flat9 : Flat Tryd.prog 9 [FK.str] := Flat.str Tryd.underlying9
theorem flat2 : Flat Tryd.prog 2 [FK.int .i64] := Flat.int Tryd.underlying2
theorem flat4 : Flat Tryd.prog 4 [FK.bool] := Flat.bool Tryd.underlying4
theorem flat23 : Flat Tryd.prog 23 [FK.str, FK.int .i64, FK.int .i64, FK.bool] := by
  refine Flat.struct (kss := [[FK.str], [FK.int .i64], [FK.int .i64], [FK.bool]]) Tryd.underlying23 ⟨rfl, ?_⟩ (by kernel_rfl)
  intro i hi
  match i, hi with
  | 0, _ => exact ⟨_, rfl, rfl, by kernel_rfl, flat9⟩
  | 1, _ => exact ⟨_, rfl, rfl, by kernel_rfl, flat2⟩
  | 2, _ => exact ⟨_, rfl, rfl, by kernel_rfl, flat2⟩
  | 3, _ => exact ⟨_, rfl, rfl, by kernel_rfl, flat4⟩
  | i + 4, hi => simp at hi; omega
set_option maxRecDepth 100000 in
theorem lifted (os : Os) (started : os.Started) (H : Type) (enc : TypeId × Value → H) :
    ReturnsInHanded {} Tryd.checked os 3 .any (fun w args => (Rows.orderComparesSpec.pre enc Tryd.prog Tryd.f3 Rows.orderComparesRow.domain false w args ∧ laidMetH Tryd.prog Rows.orderComparesRow.laid w) ∧ sizedMet enc Tryd.prog Tryd.f3 (OpenSpec.ofChange Rows.orderComparesSpec) false w args)
      (Rows.orderComparesSpec.post enc Tryd.prog Tryd.f3 false true false false) := by
  refine returnsInHanded_of_change_and (C := Tryd.checked) (X := fun w _ => laidMetH Tryd.prog Rows.orderComparesRow.laid w) (fun _ _ _ hh h => h.of_heap hh) own started (by kernel_rfl) Tryd.func3
    (ChangeSpec.witness_shaped (enc := enc) (C := Tryd.checked) (os := os) (X := fun w _ => laidMetH Tryd.prog Rows.orderComparesRow.laid w) false (World.laidAll Tryd.prog os Rows.orderComparesRow.laid) #[.int .i64 0, .agg #[.string ByteArray.empty, .int .i64 0, .int .i64 0, .bool false], .agg #[.string ByteArray.empty, .int .i64 0, .int .i64 0, .bool false]] 8 (World.laidAll_os _ _ _)
      (World.shaped_of_ZipB (by kernel_rfl) (by kernel_rfl)) (by kernel_rfl) (by kernel_rfl) (by kernel_rfl)
      (by rw [MakeChecks.laidMetH_plain _ _ _ (by kernel_rfl)]; exact laidMet_laidAll _ (by kernel_rfl) (by kernel_rfl))) ?_
  intro W base args ds gs before hval0 hW hcnd hsz0 hL _
  have hsz : (DataW.weightsEach Tryd.prog (Tryd.f3.params.toList ++ Rows.orderComparesSpec.plain.varTypes Tryd.prog) (ds ++ gs)).all (· ≤ reachBytes) = true := hsz0
  have hval : ∀ (j : Nat) t v, Tryd.f3.params[j]? = some t → args[j]? = some v → Value.okWide Tryd.prog W .any base t v := hval0
  have hW' := hW
  obtain ⟨p, q, hA0, hV, rfl, hfz, hnd⟩ := hW
  have hA : DataW.TrodAll enc Tryd.prog W 0 (fun _ => true) true Tryd.f3.params.toList args.toList ds p := hA0
  rw [Tryd.params3] at hA hval hsz
  obtain ⟨v0, vs0, d0, ds0, p0, q0, hargs, rfl, rfl, h0, r0⟩ := trodAll_cons hA
  obtain ⟨v1, vs1, d1, ds1, p1, q1, rfl, rfl, rfl, h1, r1⟩ := trodAll_cons r0
  obtain ⟨v2, vs2, d2, ds2, p2, q2, rfl, rfl, rfl, h2, r2⟩ := trodAll_cons r1
  obtain ⟨rfl, rfl, rfl⟩ := trodAll_nil r2
  obtain rfl : args = #[v0, v1, v2] := by cases args; simp_all
  obtain ⟨rfl, rfl⟩ := trodVars_none hV
  obtain ⟨a0, rfl, rfl, rfl, w0⟩ := open_int Tryd.underlying3 (hval 0 3 v0 rfl rfl) h0
  obtain ⟨cs1, rfl, f1, rfl⟩ := open_flat (by obtain ⟨cs, hc, _⟩ := okWide_struct Tryd.underlying23 (hval 1 23 v1 rfl rfl); exact ⟨cs, hc⟩) flat23 h1
  obtain ⟨c, cs1, rfl, ⟨x1_0, rfl, w1_0⟩, f1⟩ := f1
  obtain ⟨c, cs1, rfl, ⟨x1_1, rfl, w1_1⟩, f1⟩ := f1
  obtain ⟨c, cs1, rfl, ⟨x1_2, rfl, w1_2⟩, f1⟩ := f1
  obtain ⟨c, cs1, rfl, ⟨x1_3, rfl⟩, f1⟩ := f1
  obtain rfl : cs1 = [] := f1
  obtain ⟨cs2, rfl, f2, rfl⟩ := open_flat (by obtain ⟨cs, hc, _⟩ := okWide_struct Tryd.underlying23 (hval 2 23 v2 rfl rfl); exact ⟨cs, hc⟩) flat23 h2
  obtain ⟨c, cs2, rfl, ⟨x2_0, rfl, w2_0⟩, f2⟩ := f2
  obtain ⟨c, cs2, rfl, ⟨x2_1, rfl, w2_1⟩, f2⟩ := f2
  obtain ⟨c, cs2, rfl, ⟨x2_2, rfl, w2_2⟩, f2⟩ := f2
  obtain ⟨c, cs2, rfl, ⟨x2_3, rfl⟩, f2⟩ := f2
  obtain rfl : cs2 = [] := f2
  clear hA0 hval0 hsz0 hsz
  obtain ⟨k, hk⟩ := Pure.OrderCompares a0 x1_0 x1_1 x1_2 x1_3 x2_0 x2_1 x2_2 x2_3 
  refine (QOrderCompares.domesdaylaw10_OrderCompares.calls k a0 x1_0 x1_1 x1_2 x1_3 x2_0 x2_1 x2_2 x2_3 true W hk).mono fun e W' ⟨he, bel0⟩ => ?_
  have bel : Below W.heap.size W W' := bel0
  subst he
  exact ⟨_, rfl, _, _, _, [], _, [], hW', trodAll_mk1 (shut_bool Tryd.underlying4 _), (trodAll_cons_mk (shut_int Tryd.underlying3 w0) (trodAll_cons_mk (stays_flat laidOut (by kernel_rfl) (of_decide_eq_true (by kernel_rfl)) h1 bel) (trodAll_cons_mk (stays_flat laidOut (by kernel_rfl) (of_decide_eq_true (by kernel_rfl)) h2 bel) trodAll_mk0))), rfl, bel.frame _, fun h => by cases h⟩
theorem over : Rows.orderComparesRow.holds Tryd.pinned (OpenSpec.ofChange Rows.orderComparesSpec) :=
  OpenClaim.holds_of_wide 3 Tryd.f3 rfl rfl rfl rfl rfl rfl rfl ⟨rfl, rfl, rfl, rfl, rfl⟩ rfl rfl rfl rfl rfl (by kernel_rfl) Tryd.func3 (by kernel_rfl)
    (of_decide_eq_true (by kernel_rfl)) (by unfold Func.isWrapper; first | (rw [if_pos (by decide +kernel)]; kernel_rfl) | (rw [if_neg (by decide +kernel)]; exact ⟨rfl, rfl⟩))
    (fun os started H enc _ => lifted os started H enc)
theorem proved : Rows.OrderComparesCardSaid :=
  Claim7.holds_tied_plain_at .later [] [.data, .pinned] true (true, "3fe48d6ef42d69bcfd566a77aeb214cd079deb23976c295db696a79be1ca1563") false over (fun _ h => by cases h) (by kernel_rfl) (fun _ h => by cases h) orderCompares_row_tie rfl ⟨rfl, rfl⟩ (by kernel_rfl) rfl
    (fun f fn hf hfn => by
      obtain rfl : f = 3 := Option.some.inj ((show Tryd.prog.funcNamed "domesday/domesdaylaw10.OrderCompares" = some 3 by kernel_rfl).symm.trans hf) |>.symm
      obtain rfl : fn = Tryd.f3 := (Option.some.inj (Tryd.func3.symm.trans hfn)).symm
      exact ⟨by kernel_rfl, fun j t ht => by
        rw [Tryd.params3] at ht
        have hm : t ∈ [3, 23, 23] := by simpa using Array.mem_of_getElem? ht
        have hall : ([3, 23, 23].all fun u => !Tryd.prog.wantsStandIn u) = true := by kernel_rfl
        exact (show Tryd.prog.wantsStandIn t = false by simpa using List.all_eq_true.1 hall t hm)⟩)
    (by kernel_rfl)
#print axioms proved
end Go.Proofs.YtnlbjefhbeocmaaDoor.orderCompares
namespace Go.Proofs.YtnlbjefhbeocmaaDoor
/-- The row, under a short name, for the claim. -/
theorem orderCompares_holds : Rows.OrderComparesCardSaid := orderCompares.proved
end Go.Proofs.YtnlbjefhbeocmaaDoor
