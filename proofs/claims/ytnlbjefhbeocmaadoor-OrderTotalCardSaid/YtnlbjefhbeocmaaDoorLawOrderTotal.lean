/- The row of the law OrderTotal: whatever its arguments, it answers true, and they read as they did. Out of Pure.OrderTotal and the walk. -/
import Derived.Test.YtnlbjefhbeocmaaDoorRows
import Derived.Test.YtnlbjefhbeocmaaDoorQOrderTotal
import Derived.Test.YtnlbjefhbeocmaaDoorPureOrderTotal
import Derived.Test.YtnlbjefhbeocmaaDoorVRow
import Derived.WalkKit
import Derived.ProofKit
import Derived.OpenShut
import Derived.ShutString
import Derived.ChangeOld
import Derived.Below
import Derived.SizedLaws
import Derived.Test.YtnlbjefhbeocmaaDoorCards
import Derived.Test.YtnlbjefhbeocmaaDoorTie
import Derived.Lay
import Derived.LaidOnce
import Derived.SevenTiedAt
import Derived.LaidLaws
import Derived.Handed
namespace Go.Proofs.YtnlbjefhbeocmaaDoor.orderTotal
open Go.ChangeShapes Go.WideShapes Go.ChangeAt Go.RowKit Go.Proofs.YtnlbjefhbeocmaaDoorW.VRow
open Go.ChangeMaps (open_string shut_string)
set_option linter.unusedVariables false
theorem own : ownKnob Tryd.prog.godebug = none := by kernel_rfl
theorem laidOut : laidOutB Tryd.prog = true := by kernel_rfl
theorem flat3 : Flat Tryd.prog 3 [FK.int .i64] := Flat.int Tryd.underlying3
theorem flat9 : Flat Tryd.prog 9 [FK.str] := Flat.str Tryd.underlying9
theorem flat2 : Flat Tryd.prog 2 [FK.int .i64] := Flat.int Tryd.underlying2
theorem flat4 : Flat Tryd.prog 4 [FK.bool] := Flat.bool Tryd.underlying4
theorem flat23 : Flat Tryd.prog 23 [FK.str, FK.int .i64, FK.int .i64, FK.bool] := by
  refine Flat.struct (kss := [[FK.str], [FK.int .i64], [FK.int .i64], [FK.bool]]) Tryd.underlying23 ⟨rfl, ?_⟩ (by kernel_rfl)
  intro i hi
  match i, hi with
  | 0, _ => exact ⟨_, rfl, rfl, by kernel_rfl, flat9⟩
  | 1, _ => exact ⟨_, rfl, rfl, by kernel_rfl, flat2⟩
  | 2, _ => exact ⟨_, rfl, rfl, by kernel_rfl, flat2⟩
  | 3, _ => exact ⟨_, rfl, rfl, by kernel_rfl, flat4⟩
  | i + 4, hi => simp at hi; omega
theorem flat31 : Flat Tryd.prog 31 [FK.str, FK.int .i64, FK.int .i64, FK.bool, FK.str, FK.int .i64, FK.int .i64, FK.bool, FK.str, FK.int .i64, FK.int .i64, FK.bool] := Flat.array Tryd.underlying31 flat23 (by kernel_rfl) (by kernel_rfl)
set_option maxRecDepth 100000 in
theorem lifted (os : Os) (started : os.Started) (H : Type) (enc : TypeId × Value → H) :
    ReturnsInHanded {} Tryd.checked os 4 .any (fun w args => (Rows.orderTotalSpec.pre enc Tryd.prog Tryd.f4 Rows.orderTotalRow.domain false w args ∧ laidMetH Tryd.prog Rows.orderTotalRow.laid w) ∧ sizedMet enc Tryd.prog Tryd.f4 (OpenSpec.ofChange Rows.orderTotalSpec) false w args)
      (Rows.orderTotalSpec.post enc Tryd.prog Tryd.f4 false true false false) := by
  refine returnsInHanded_of_change_and (C := Tryd.checked) (X := fun w _ => laidMetH Tryd.prog Rows.orderTotalRow.laid w) (fun _ _ _ hh h => h.of_heap hh) own started (by kernel_rfl) Tryd.func4
    (ChangeSpec.witness_shaped (enc := enc) (C := Tryd.checked) (os := os) (X := fun w _ => laidMetH Tryd.prog Rows.orderTotalRow.laid w) false (World.laidAll Tryd.prog os Rows.orderTotalRow.laid) #[.int .i64 0, .agg #[.string ByteArray.empty, .int .i64 0, .int .i64 0, .bool false, .string ByteArray.empty, .int .i64 0, .int .i64 0, .bool false, .string ByteArray.empty, .int .i64 0, .int .i64 0, .bool false]] 8 (World.laidAll_os _ _ _)
      (World.shaped_of_ZipB (by kernel_rfl) (by kernel_rfl)) (by kernel_rfl) (by kernel_rfl) (by kernel_rfl)
      (by rw [MakeChecks.laidMetH_plain _ _ _ (by kernel_rfl)]; exact laidMet_laidAll _ (by kernel_rfl) (by kernel_rfl))) ?_
  intro W base args ds gs before hval0 hW hcnd hsz0 hL _
  have hsz : (DataW.weightsEach Tryd.prog (Tryd.f4.params.toList ++ Rows.orderTotalSpec.plain.varTypes Tryd.prog) (ds ++ gs)).all (· ≤ reachBytes) = true := hsz0
  have hval : ∀ (j : Nat) t v, Tryd.f4.params[j]? = some t → args[j]? = some v → Value.okWide Tryd.prog W .any base t v := hval0
  have hW' := hW
  obtain ⟨p, q, hA0, hV, rfl, hfz, hnd⟩ := hW
  have hA : DataW.TrodAll enc Tryd.prog W 0 (fun _ => true) true Tryd.f4.params.toList args.toList ds p := hA0
  rw [Tryd.params4] at hA hval hsz
  obtain ⟨v0, vs0, d0, ds0, p0, q0, hargs, rfl, rfl, h0, r0⟩ := trodAll_cons hA
  obtain ⟨v1, vs1, d1, ds1, p1, q1, rfl, rfl, rfl, h1, r1⟩ := trodAll_cons r0
  obtain ⟨rfl, rfl, rfl⟩ := trodAll_nil r1
  obtain rfl : args = #[v0, v1] := by cases args; simp_all
  obtain ⟨rfl, rfl⟩ := trodVars_none hV
  obtain ⟨a0, rfl, rfl, rfl, w0⟩ := open_int Tryd.underlying3 (hval 0 3 v0 rfl rfl) h0
  obtain ⟨cs1, rfl, f1, rfl⟩ := open_flat (by obtain ⟨cs, hc, _⟩ := okWide_array Tryd.underlying31 (hval 1 31 v1 rfl rfl); exact ⟨cs, hc⟩) flat31 h1
  obtain ⟨c, cs1, rfl, ⟨x1_0, rfl, w1_0⟩, f1⟩ := f1
  obtain ⟨c, cs1, rfl, ⟨x1_1, rfl, w1_1⟩, f1⟩ := f1
  obtain ⟨c, cs1, rfl, ⟨x1_2, rfl, w1_2⟩, f1⟩ := f1
  obtain ⟨c, cs1, rfl, ⟨x1_3, rfl⟩, f1⟩ := f1
  obtain ⟨c, cs1, rfl, ⟨x1_4, rfl, w1_4⟩, f1⟩ := f1
  obtain ⟨c, cs1, rfl, ⟨x1_5, rfl, w1_5⟩, f1⟩ := f1
  obtain ⟨c, cs1, rfl, ⟨x1_6, rfl, w1_6⟩, f1⟩ := f1
  obtain ⟨c, cs1, rfl, ⟨x1_7, rfl⟩, f1⟩ := f1
  obtain ⟨c, cs1, rfl, ⟨x1_8, rfl, w1_8⟩, f1⟩ := f1
  obtain ⟨c, cs1, rfl, ⟨x1_9, rfl, w1_9⟩, f1⟩ := f1
  obtain ⟨c, cs1, rfl, ⟨x1_10, rfl, w1_10⟩, f1⟩ := f1
  obtain ⟨c, cs1, rfl, ⟨x1_11, rfl⟩, f1⟩ := f1
  obtain rfl : cs1 = [] := f1
  clear hA0 hval0 hsz0 hsz
  obtain ⟨k, hk⟩ := Pure.OrderTotal a0 x1_0 x1_1 x1_2 x1_3 x1_4 x1_5 x1_6 x1_7 x1_8 x1_9 x1_10 x1_11 
  refine (QOrderCompares.domesdaylaw10_OrderTotal.calls k a0 x1_0 x1_1 x1_2 x1_3 x1_4 x1_5 x1_6 x1_7 x1_8 x1_9 x1_10 x1_11 true W hk).mono fun e W' ⟨he, bel0⟩ => ?_
  have bel : Below W.heap.size W W' := bel0
  subst he
  exact ⟨_, rfl, _, _, _, [], _, [], hW', trodAll_mk1 (shut_bool Tryd.underlying4 _), (trodAll_cons_mk (shut_int Tryd.underlying3 w0) (trodAll_cons_mk (stays_flat laidOut (by kernel_rfl) (of_decide_eq_true (by kernel_rfl)) h1 bel) trodAll_mk0)), rfl, bel.frame _, fun h => by cases h⟩
theorem over : Rows.orderTotalRow.holds Tryd.pinned (OpenSpec.ofChange Rows.orderTotalSpec) :=
  OpenClaim.holds_of_wide 4 Tryd.f4 rfl rfl rfl rfl rfl rfl rfl ⟨rfl, rfl, rfl, rfl, rfl⟩ rfl rfl rfl rfl rfl (by kernel_rfl) Tryd.func4 (by kernel_rfl)
    (of_decide_eq_true (by kernel_rfl)) (by unfold Func.isWrapper; first | (rw [if_pos (by decide +kernel)]; kernel_rfl) | (rw [if_neg (by decide +kernel)]; exact ⟨rfl, rfl⟩))
    (fun os started H enc _ => lifted os started H enc)
theorem proved : Rows.OrderTotalCardSaid :=
  Claim7.holds_tied_plain_at .later [] [.data, .pinned] true (true, "3fe48d6ef42d69bcfd566a77aeb214cd079deb23976c295db696a79be1ca1563") false over (fun _ h => by cases h) (by kernel_rfl) (fun _ h => by cases h) orderTotal_row_tie rfl ⟨rfl, rfl⟩ (by kernel_rfl) rfl
    (fun f fn hf hfn => by
      obtain rfl : f = 4 := Option.some.inj ((show Tryd.prog.funcNamed "domesday/domesdaylaw10.OrderTotal" = some 4 by kernel_rfl).symm.trans hf) |>.symm
      obtain rfl : fn = Tryd.f4 := (Option.some.inj (Tryd.func4.symm.trans hfn)).symm
      exact ⟨by kernel_rfl, fun j t ht => by
        rw [Tryd.params4] at ht
        have hm : t ∈ [3, 31] := by simpa using Array.mem_of_getElem? ht
        have hall : ([3, 31].all fun u => !Tryd.prog.wantsStandIn u) = true := by kernel_rfl
        exact (show Tryd.prog.wantsStandIn t = false by simpa using List.all_eq_true.1 hall t hm)⟩)
    (by kernel_rfl)
#print axioms proved
end Go.Proofs.YtnlbjefhbeocmaaDoor.orderTotal
namespace Go.Proofs.YtnlbjefhbeocmaaDoor
/-- The row, under a short name, for the claim. -/
theorem orderTotal_holds : Rows.OrderTotalCardSaid := orderTotal.proved
end Go.Proofs.YtnlbjefhbeocmaaDoor
