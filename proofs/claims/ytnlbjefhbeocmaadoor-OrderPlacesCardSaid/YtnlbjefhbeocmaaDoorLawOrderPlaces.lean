/- The row of the law OrderPlaces: whatever its arguments, it answers true, and they read as they did. Out of Pure.OrderPlaces and the walk. -/
import Derived.Test.YtnlbjefhbeocmaaDoorRows
import Derived.Test.YtnlbjefhbeocmaaDoorQOrderPlaces
import Derived.Test.YtnlbjefhbeocmaaDoorPureOrderPlaces
import Derived.Test.YtnlbjefhbeocmaaDoorVRow2
import Derived.WalkKit
import Derived.ProofKit
import Derived.OpenShut
import Derived.ShutString
import Derived.ChangeOld
import Derived.Below
import Derived.SizedLaws
import Derived.Test.YtnlbjefhbeocmaaDoorCards
import Derived.Test.YtnlbjefhbeocmaaDoorTie
import Derived.Lay
import Derived.LaidOnce
import Derived.SevenTiedAt
import Derived.LaidLaws
import Derived.Handed
namespace Go.Proofs.YtnlbjefhbeocmaaDoor.orderPlaces
open Go.ChangeShapes Go.WideShapes Go.ChangeAt Go.RowKit Go.Proofs.YtnlbjefhbeocmaaDoorW.VRow Go.Proofs.YtnlbjefhbeocmaaDoorW.PrintWords
open Go.ChangeMaps (open_string shut_string)
set_option linter.unusedVariables false
theorem own : ownKnob Tryd.prog.godebug = none := by kernel_rfl
theorem laidOut : laidOutB Tryd.prog = true := by kernel_rfl
theorem flat3 : Flat Tryd.prog 3 [FK.int .i64] := Flat.int Tryd.underlying3
theorem flat4 : Flat Tryd.prog 4 [FK.bool] := Flat.bool Tryd.underlying4
theorem flat36 : Flat Tryd.prog 36 [FK.bool, FK.bool] := Flat.array Tryd.underlying36 flat4 (by kernel_rfl) (by kernel_rfl)
theorem tells9 : Tells Tryd.prog 9 Kd.string := Tells.str Tryd.underlying9
theorem tells2 : Tells Tryd.prog 2 (Kd.int .i64) := Tells.int Tryd.underlying2
theorem tells4 : Tells Tryd.prog 4 Kd.bool := Tells.bool Tryd.underlying4
theorem tells23 : Tells Tryd.prog 23 QOrderCompares.k23 := Tells.iso (Tells.structA Tryd.underlying23 (by kernel_rfl) (TellsF.cons rfl (by kernel_rfl) tells9 (TellsF.cons rfl (by kernel_rfl) tells2 (TellsF.cons rfl (by kernel_rfl) tells2 (TellsF.one rfl (by kernel_rfl) tells4))))) (fun x : QOrderCompares.S23 => (x.f0, x.f1, x.f2, x.f3)) (fun p => ⟨p.1, p.2.1, p.2.2.1, p.2.2.2⟩) (fun _ => rfl)
theorem tells26 : Tells Tryd.prog 26 (Kd.slice 23 QOrderCompares.k23) := Tells.slice Tryd.underlying26 tells23 (by kernel_rfl)
set_option maxRecDepth 100000 in
theorem lifted (os : Os) (started : os.Started) (H : Type) (enc : TypeId × Value → H) :
    ReturnsInHanded {} Tryd.checked os 7 .any (fun w args => (Rows.orderPlacesSpec.pre enc Tryd.prog Tryd.f7 Rows.orderPlacesRow.domain false w args ∧ laidMetH Tryd.prog Rows.orderPlacesRow.laid w) ∧ sizedMet enc Tryd.prog Tryd.f7 (OpenSpec.ofChange Rows.orderPlacesSpec) false w args)
      (Rows.orderPlacesSpec.post enc Tryd.prog Tryd.f7 false true false false) := by
  refine returnsInHanded_of_change_and (C := Tryd.checked) (X := fun w _ => laidMetH Tryd.prog Rows.orderPlacesRow.laid w) (fun _ _ _ hh h => h.of_heap hh) own started (by kernel_rfl) Tryd.func7
    (ChangeSpec.witness_shaped (enc := enc) (C := Tryd.checked) (os := os) (X := fun w _ => laidMetH Tryd.prog Rows.orderPlacesRow.laid w) false (World.laidAll Tryd.prog os Rows.orderPlacesRow.laid) #[.int .i64 0, .agg #[.bool false, .bool false], .slice none 0 0] 8 (World.laidAll_os _ _ _)
      (World.shaped_of_ZipB (by kernel_rfl) (by kernel_rfl)) (by kernel_rfl) (by kernel_rfl) (by kernel_rfl)
      (by rw [MakeChecks.laidMetH_plain _ _ _ (by kernel_rfl)]; exact laidMet_laidAll _ (by kernel_rfl) (by kernel_rfl))) ?_
  intro W base args ds gs before hval0 hW hcnd hsz0 hL _
  have hsz : (DataW.weightsEach Tryd.prog (Tryd.f7.params.toList ++ Rows.orderPlacesSpec.plain.varTypes Tryd.prog) (ds ++ gs)).all (· ≤ reachBytes) = true := hsz0
  have hval : ∀ (j : Nat) t v, Tryd.f7.params[j]? = some t → args[j]? = some v → Value.okWide Tryd.prog W .any base t v := hval0
  have hW' := hW
  obtain ⟨p, q, hA0, hV, rfl, hfz, hnd⟩ := hW
  have hA : DataW.TrodAll enc Tryd.prog W 0 (fun _ => true) true Tryd.f7.params.toList args.toList ds p := hA0
  rw [Tryd.params7] at hA hval hsz
  obtain ⟨v0, vs0, d0, ds0, p0, q0, hargs, rfl, rfl, h0, r0⟩ := trodAll_cons hA
  obtain ⟨v1, vs1, d1, ds1, p1, q1, rfl, rfl, rfl, h1, r1⟩ := trodAll_cons r0
  obtain ⟨v2, vs2, d2, ds2, p2, q2, rfl, rfl, rfl, h2, r2⟩ := trodAll_cons r1
  obtain ⟨rfl, rfl, rfl⟩ := trodAll_nil r2
  obtain rfl : args = #[v0, v1, v2] := by cases args; simp_all
  obtain ⟨rfl, rfl⟩ := trodVars_none hV
  obtain ⟨a0, rfl, rfl, rfl, w0⟩ := open_int Tryd.underlying3 (hval 0 3 v0 rfl rfl) h0
  obtain ⟨cs1, rfl, f1, rfl⟩ := open_flat (by obtain ⟨cs, hc, _⟩ := okWide_array Tryd.underlying36 (hval 1 36 v1 rfl rfl); exact ⟨cs, hc⟩) flat36 h1
  obtain ⟨c, cs1, rfl, ⟨x1_0, rfl⟩, f1⟩ := f1
  obtain ⟨c, cs1, rfl, ⟨x1_1, rfl⟩, f1⟩ := f1
  obtain rfl : cs1 = [] := f1
  obtain ⟨A2, n2, c2, rfl⟩ := okWide_slice Tryd.underlying26 (hval 2 26 v2 rfl rfl)
  have k2 := h2
  have lt2 : ∀ x ∈ p2, x.block < W.heap.size := by obtain ⟨m, hm⟩ := k2; exact DataW.trod_lt m _ _ _ hm
  obtain ⟨l2, C2, rfl, le2⟩ := open_told tells26 h2
  clear hA0 hval0 hsz0 hsz
  obtain ⟨k, hk⟩ := Pure.OrderPlaces a0 x1_0 x1_1 l2 
  refine (QOrderCompares.domesdaylaw10_OrderPlaces.calls k a0 x1_0 x1_1 A2 c2 l2 true W C2 le2 hk).mono fun e W' ⟨he, bel0⟩ => ?_
  have bel : Below W.heap.size W W' := bel0
  subst he
  exact ⟨_, rfl, _, _, _, [], _, [], hW', trodAll_mk1 (shut_bool Tryd.underlying4 _), (trodAll_cons_mk (shut_int Tryd.underlying3 w0) (trodAll_cons_mk (stays_flat laidOut (by kernel_rfl) (of_decide_eq_true (by kernel_rfl)) h1 bel) (trodAll_cons_mk (Below.trod laidOut (by kernel_rfl) (of_decide_eq_true (by kernel_rfl)) k2 bel lt2) trodAll_mk0))), rfl, bel.frame _, fun h => by cases h⟩
theorem over : Rows.orderPlacesRow.holds Tryd.pinned (OpenSpec.ofChange Rows.orderPlacesSpec) :=
  OpenClaim.holds_of_wide 7 Tryd.f7 rfl rfl rfl rfl rfl rfl rfl ⟨rfl, rfl, rfl, rfl, rfl⟩ rfl rfl rfl rfl rfl (by kernel_rfl) Tryd.func7 (by kernel_rfl)
    (of_decide_eq_true (by kernel_rfl)) (by unfold Func.isWrapper; first | (rw [if_pos (by decide +kernel)]; kernel_rfl) | (rw [if_neg (by decide +kernel)]; exact ⟨rfl, rfl⟩))
    (fun os started H enc _ => lifted os started H enc)
theorem proved : Rows.OrderPlacesCardSaid :=
  Claim7.holds_tied_plain_at .later [] [.data, .pinned] true (true, "3fe48d6ef42d69bcfd566a77aeb214cd079deb23976c295db696a79be1ca1563") false over (fun _ h => by cases h) (by kernel_rfl) (fun _ h => by cases h) orderPlaces_row_tie rfl ⟨rfl, rfl⟩ (by kernel_rfl) rfl
    (fun f fn hf hfn => by
      obtain rfl : f = 7 := Option.some.inj ((show Tryd.prog.funcNamed "domesday/domesdaylaw10.OrderPlaces" = some 7 by kernel_rfl).symm.trans hf) |>.symm
      obtain rfl : fn = Tryd.f7 := (Option.some.inj (Tryd.func7.symm.trans hfn)).symm
      exact ⟨by kernel_rfl, fun j t ht => by
        rw [Tryd.params7] at ht
        have hm : t ∈ [3, 36, 26] := by simpa using Array.mem_of_getElem? ht
        have hall : ([3, 36, 26].all fun u => !Tryd.prog.wantsStandIn u) = true := by kernel_rfl
        exact (show Tryd.prog.wantsStandIn t = false by simpa using List.all_eq_true.1 hall t hm)⟩)
    (by kernel_rfl)
#print axioms proved
end Go.Proofs.YtnlbjefhbeocmaaDoor.orderPlaces
namespace Go.Proofs.YtnlbjefhbeocmaaDoor
/-- The row, under a short name, for the claim. -/
theorem orderPlaces_holds : Rows.OrderPlacesCardSaid := orderPlaces.proved
end Go.Proofs.YtnlbjefhbeocmaaDoor
