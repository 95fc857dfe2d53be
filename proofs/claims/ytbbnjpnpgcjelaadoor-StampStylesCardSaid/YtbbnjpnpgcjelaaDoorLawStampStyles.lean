/- The row of the law StampStyles: whatever its arguments, it answers true, and they read as they did. Out of Pure.StampStyles and the walk. -/
import Derived.Test.YtbbnjpnpgcjelaaDoorRows
import Derived.Test.YtbbnjpnpgcjelaaDoorQStyles
import Derived.Test.YtbbnjpnpgcjelaaDoorPureStampStyles
import Derived.Test.YtbbnjpnpgcjelaaDoorVRow
import Derived.WalkKit
import Derived.ProofKit
import Derived.OpenShut
import Derived.ShutString
import Derived.ChangeOld
import Derived.Below
import Derived.SizedLaws
import Derived.Test.YtbbnjpnpgcjelaaDoorCards
import Derived.Test.YtbbnjpnpgcjelaaDoorTie
import Derived.Lay
import Derived.LaidOnce
import Derived.SevenTiedAt
import Derived.LaidLaws
import Derived.Handed
namespace Go.Proofs.YtbbnjpnpgcjelaaDoor.stampStyles
open Go.ChangeShapes Go.WideShapes Go.ChangeAt Go.RowKit Go.Proofs.YtbbnjpnpgcjelaaDoorW.VRow
open Go.ChangeMaps (open_string shut_string)
set_option linter.unusedVariables false
theorem own : ownKnob Tryd.prog.godebug = none := by kernel_rfl
theorem laidOut : laidOutB Tryd.prog = true := by kernel_rfl
theorem flat3 : Flat Tryd.prog 3 [FK.int .i64] := Flat.int Tryd.underlying3
theorem flat9 : Flat Tryd.prog 9 [FK.str] := Flat.str Tryd.underlying9
theorem flat2 : Flat Tryd.prog 2 [FK.int .i64] := Flat.int Tryd.underlying2
theorem flat32 : Flat Tryd.prog 32 [FK.int .i64, FK.str, FK.int .i64, FK.int .i64, FK.int .i64] := by
  refine Flat.struct (kss := [[FK.int .i64], [FK.str], [FK.int .i64], [FK.int .i64], [FK.int .i64]]) Tryd.underlying32 ⟨rfl, ?_⟩ (by kernel_rfl)
  intro i hi
  match i, hi with
  | 0, _ => exact ⟨_, rfl, rfl, by kernel_rfl, flat3⟩
  | 1, _ => exact ⟨_, rfl, rfl, by kernel_rfl, flat9⟩
  | 2, _ => exact ⟨_, rfl, rfl, by kernel_rfl, flat2⟩
  | 3, _ => exact ⟨_, rfl, rfl, by kernel_rfl, flat2⟩
  | 4, _ => exact ⟨_, rfl, rfl, by kernel_rfl, flat3⟩
  | i + 5, hi => simp at hi; omega
set_option maxRecDepth 100000 in
theorem lifted (os : Os) (started : os.Started) (H : Type) (enc : TypeId × Value → H) :
    ReturnsInHanded {} Tryd.checked os 6 .any (fun w args => (Rows.stampStylesSpec.pre enc Tryd.prog Tryd.f6 Rows.stampStylesRow.domain false w args ∧ laidMetH Tryd.prog Rows.stampStylesRow.laid w) ∧ sizedMet enc Tryd.prog Tryd.f6 (OpenSpec.ofChange Rows.stampStylesSpec) false w args)
      (Rows.stampStylesSpec.post enc Tryd.prog Tryd.f6 false true false false) := by
  refine returnsInHanded_of_change_and (C := Tryd.checked) (X := fun w _ => laidMetH Tryd.prog Rows.stampStylesRow.laid w) (fun _ _ _ hh h => h.of_heap hh) own started (by kernel_rfl) Tryd.func6
    (ChangeSpec.witness_shaped (enc := enc) (C := Tryd.checked) (os := os) (X := fun w _ => laidMetH Tryd.prog Rows.stampStylesRow.laid w) false (World.laidAll Tryd.prog os Rows.stampStylesRow.laid) #[.agg #[.int .i64 0, .string ByteArray.empty, .int .i64 0, .int .i64 0, .int .i64 0]] 8 (World.laidAll_os _ _ _)
      (World.shaped_of_ZipB (by kernel_rfl) (by kernel_rfl)) (by kernel_rfl) (by kernel_rfl) (by kernel_rfl)
      (by rw [MakeChecks.laidMetH_plain _ _ _ (by kernel_rfl)]; exact laidMet_laidAll _ (by kernel_rfl) (by kernel_rfl))) ?_
  intro W base args ds gs before hval0 hW hcnd hsz0 hL _
  have hsz : (DataW.weightsEach Tryd.prog (Tryd.f6.params.toList ++ Rows.stampStylesSpec.plain.varTypes Tryd.prog) (ds ++ gs)).all (· ≤ reachBytes) = true := hsz0
  have hval : ∀ (j : Nat) t v, Tryd.f6.params[j]? = some t → args[j]? = some v → Value.okWide Tryd.prog W .any base t v := hval0
  have hW' := hW
  obtain ⟨p, q, hA0, hV, rfl, hfz, hnd⟩ := hW
  have hA : DataW.TrodAll enc Tryd.prog W 0 (fun _ => true) true Tryd.f6.params.toList args.toList ds p := hA0
  rw [Tryd.params6] at hA hval hsz
  obtain ⟨v0, vs0, d0, ds0, p0, q0, hargs, rfl, rfl, h0, r0⟩ := trodAll_cons hA
  obtain ⟨rfl, rfl, rfl⟩ := trodAll_nil r0
  obtain rfl : args = #[v0] := by cases args; simp_all
  obtain ⟨rfl, rfl⟩ := trodVars_none hV
  obtain ⟨cs0, rfl, f0, rfl⟩ := open_flat (by obtain ⟨cs, hc, _⟩ := okWide_struct Tryd.underlying32 (hval 0 32 v0 rfl rfl); exact ⟨cs, hc⟩) flat32 h0
  obtain ⟨c, cs0, rfl, ⟨x0_0, rfl, w0_0⟩, f0⟩ := f0
  obtain ⟨c, cs0, rfl, ⟨x0_1, rfl, w0_1⟩, f0⟩ := f0
  obtain ⟨c, cs0, rfl, ⟨x0_2, rfl, w0_2⟩, f0⟩ := f0
  obtain ⟨c, cs0, rfl, ⟨x0_3, rfl, w0_3⟩, f0⟩ := f0
  obtain ⟨c, cs0, rfl, ⟨x0_4, rfl, w0_4⟩, f0⟩ := f0
  obtain rfl : cs0 = [] := f0
  clear hA0 hval0 hsz0 hsz
  rw [MakeChecks.laidMetH_plain _ _ _ (by kernel_rfl)] at hL
  have HE := QStm.env_of hL
  obtain ⟨k, hk⟩ := Pure.StampStyles x0_0 x0_1 x0_2 x0_3 x0_4 w0_0 w0_1 w0_2 w0_3 w0_4
  refine (QStm.domesdaylaw05_StampStyles.calls k x0_0 x0_1 x0_2 x0_3 x0_4 true W hk HE).mono fun e W' ⟨he, bel0⟩ => ?_
  have bel : Below W.heap.size W W' := bel0
  subst he
  exact ⟨_, rfl, _, _, _, [], _, [], hW', trodAll_mk1 (shut_bool Tryd.underlying4 _), (trodAll_cons_mk (stays_flat laidOut (by kernel_rfl) (of_decide_eq_true (by kernel_rfl)) h0 bel) trodAll_mk0), rfl, bel.frame _, fun h => by cases h⟩
theorem over : Rows.stampStylesRow.holds Tryd.pinned (OpenSpec.ofChange Rows.stampStylesSpec) :=
  OpenClaim.holds_of_wide 6 Tryd.f6 rfl rfl rfl rfl rfl rfl rfl ⟨rfl, rfl, rfl, rfl, rfl⟩ rfl rfl rfl rfl rfl (by kernel_rfl) Tryd.func6 (by kernel_rfl)
    (of_decide_eq_true (by kernel_rfl)) (by unfold Func.isWrapper; first | (rw [if_pos (by decide +kernel)]; kernel_rfl) | (rw [if_neg (by decide +kernel)]; exact ⟨rfl, rfl⟩))
    (fun os started H enc _ => lifted os started H enc)
theorem proved : Rows.StampStylesCardSaid :=
  Claim7.holds_tied_plain_at .later [] [.data, .data, .data] true (true, "c59ec9012f4df46edefadedb98afc93d21077939fdc89fa2f2af35e579d348cd") false over (fun _ h => by cases h) (by kernel_rfl) (fun _ h => by cases h) stampStyles_row_tie rfl ⟨rfl, rfl⟩ (by kernel_rfl) rfl
    (fun f fn hf hfn => by
      obtain rfl : f = 6 := Option.some.inj ((show Tryd.prog.funcNamed "domesday/domesdaylaw05.StampStyles" = some 6 by kernel_rfl).symm.trans hf) |>.symm
      obtain rfl : fn = Tryd.f6 := (Option.some.inj (Tryd.func6.symm.trans hfn)).symm
      exact ⟨by kernel_rfl, fun j t ht => by
        rw [Tryd.params6] at ht
        have hm : t ∈ [32] := by simpa using Array.mem_of_getElem? ht
        have hall : ([32].all fun u => !Tryd.prog.wantsStandIn u) = true := by kernel_rfl
        exact (show Tryd.prog.wantsStandIn t = false by simpa using List.all_eq_true.1 hall t hm)⟩)
    (by kernel_rfl)
#print axioms proved
end Go.Proofs.YtbbnjpnpgcjelaaDoor.stampStyles
namespace Go.Proofs.YtbbnjpnpgcjelaaDoor
/-- The row, under a short name, for the claim. -/
theorem stampStyles_holds : Rows.StampStylesCardSaid := stampStyles.proved
end Go.Proofs.YtbbnjpnpgcjelaaDoor
