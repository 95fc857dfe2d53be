/- The row of the law WidthMost: whatever its arguments, it answers true, and they read as they did. Out of Pure.WidthMost and the walk. -/
import Derived.Test.YtngcecmfgjgigaaDoorRows
import Derived.Test.YtngcecmfgjgigaaDoorQWidthMost
import Derived.Test.YtngcecmfgjgigaaDoorPureWidthMost
import Derived.Test.YtngcecmfgjgigaaDoorVRow
import Derived.WalkKit
import Derived.ProofKit
import Derived.OpenShut
import Derived.ShutString
import Derived.ChangeOld
import Derived.Below
import Derived.SizedLaws
import Derived.Test.YtngcecmfgjgigaaDoorCards
import Derived.Test.YtngcecmfgjgigaaDoorTie
import Derived.Lay
import Derived.LaidOnce
import Derived.SevenTiedAt
import Derived.LaidLaws
import Derived.Handed
import Derived.SliceStrings
namespace Go.Proofs.YtngcecmfgjgigaaDoor.widthMost
open Go.ChangeShapes Go.WideShapes Go.ChangeAt Go.RowKit Go.Proofs.YtngcecmfgjgigaaDoorW.VRow
open Go.ChangeMaps (open_string shut_string)
set_option linter.unusedVariables false
theorem own : ownKnob Tryd.prog.godebug = none := by kernel_rfl
theorem laidOut : laidOutB Tryd.prog = true := by kernel_rfl
set_option maxRecDepth 100000 in
theorem lifted (os : Os) (started : os.Started) (H : Type) (enc : TypeId × Value → H) :
    ReturnsInHanded {} Tryd.checked os 4 .any (fun w args => (Rows.widthMostSpec.pre enc Tryd.prog Tryd.f4 Rows.widthMostRow.domain false w args ∧ laidMetH Tryd.prog Rows.widthMostRow.laid w) ∧ sizedMet enc Tryd.prog Tryd.f4 (OpenSpec.ofChange Rows.widthMostSpec) false w args)
      (Rows.widthMostSpec.post enc Tryd.prog Tryd.f4 false true false false) := by
  refine returnsInHanded_of_change_and (C := Tryd.checked) (X := fun w _ => laidMetH Tryd.prog Rows.widthMostRow.laid w) (fun _ _ _ hh h => h.of_heap hh) own started (by kernel_rfl) Tryd.func4
    (ChangeSpec.witness_shaped (enc := enc) (C := Tryd.checked) (os := os) (X := fun w _ => laidMetH Tryd.prog Rows.widthMostRow.laid w) false (World.laidAll Tryd.prog os Rows.widthMostRow.laid) #[.slice none 0 0] 8 (World.laidAll_os _ _ _)
      (World.shaped_of_ZipB (by kernel_rfl) (by kernel_rfl)) (by kernel_rfl) (by kernel_rfl) (by kernel_rfl)
      (by rw [MakeChecks.laidMetH_plain _ _ _ (by kernel_rfl)]; exact laidMet_laidAll _ (by kernel_rfl) (by kernel_rfl))) ?_
  intro W base args ds gs before hval0 hW hcnd hsz0 hL _
  have hsz : (DataW.weightsEach Tryd.prog (Tryd.f4.params.toList ++ Rows.widthMostSpec.plain.varTypes Tryd.prog) (ds ++ gs)).all (· ≤ reachBytes) = true := hsz0
  have hval : ∀ (j : Nat) t v, Tryd.f4.params[j]? = some t → args[j]? = some v → Value.okWide Tryd.prog W .any base t v := hval0
  have hW' := hW
  obtain ⟨p, q, hA0, hV, rfl, hfz, hnd⟩ := hW
  have hA : DataW.TrodAll enc Tryd.prog W 0 (fun _ => true) true Tryd.f4.params.toList args.toList ds p := hA0
  rw [Tryd.params4] at hA hval hsz
  obtain ⟨v0, vs0, d0, ds0, p0, q0, hargs, rfl, rfl, h0, r0⟩ := trodAll_cons hA
  obtain ⟨rfl, rfl, rfl⟩ := trodAll_nil r0
  obtain rfl : args = #[v0] := by cases args; simp_all
  obtain ⟨rfl, rfl⟩ := trodVars_none hV
  obtain ⟨a0, len0, cap0, rfl⟩ := okWide_slice Tryd.underlying26 (hval 0 26 v0 rfl rfl)
  have k0 := h0
  have lt0 : ∀ x ∈ p0, x.block < W.heap.size := by obtain ⟨m, hm⟩ := k0; exact DataW.trod_lt m _ _ _ hm
  obtain ⟨ss, hC, hlen, hle⟩ : ∃ ss : List ByteArray, Go.Proofs.YtngcecmfgjgigaaDoorW.PrintWords.Kd.C Go.Proofs.YtngcecmfgjgigaaDoorW.PrintWords.Kd.string W a0 ss.length ss ∧ len0 = ss.length ∧ ss.length ≤ cap0 := by
    obtain ⟨fuel, hf⟩ := h0
    rcases open_strings Tryd.underlying26 Tryd.underlying9 (by kernel_rfl) hf with ⟨hcs, _⟩ | ⟨x, l, c, zs, hcs, _, hl, hm, hz, _, hcell, hwz⟩
    · simp [Value.cells] at hcs
      obtain ⟨rfl, rfl, rfl⟩ := hcs
      exact ⟨[], Go.Proofs.YtngcecmfgjgigaaDoorW.PrintWords.Kd.C_nil _ _, rfl, Nat.le_refl _⟩
    · simp [Value.cells] at hcs
      obtain ⟨rfl, rfl, rfl⟩ := hcs
      have hz' : zs.length = cap0 := by simpa using hz
      have hm' : cap0 ≤ 9223372036854775807 := hm
      have e : (zs.take len0).length = len0 := by rw [List.length_take]; omega
      refine ⟨zs.take len0, ⟨rfl, by omega, fun _ => ⟨_, rfl, fun j p hp => ⟨[.string p], rfl, rfl, fun i u hi => ?_⟩⟩⟩, e.symm, by omega⟩
      have hj : j < len0 := by
        rcases Nat.lt_or_ge j len0 with h | h
        · exact h
        · rw [List.getElem?_eq_none (by omega)] at hp; cases hp
      match i, hi with
      | 0, hi =>
        obtain rfl := Option.some.inj hi
        have hc := hcell j (by omega)
        rw [List.getElem?_take, if_pos hj] at hp
        have hd : zs.getD j ByteArray.empty = p := by rw [List.getD_eq_getElem?_getD, hp]; rfl
        rw [hd] at hc
        show W.cell? (x.add (j * 1 + 0)) = _
        rw [Nat.mul_one, Nat.add_zero]
        exact hc
      | i + 1, hi => simp at hi
  subst hlen
  clear hA0 hval0 hsz0 hsz
  rw [MakeChecks.laidMetH_plain _ _ _ (by kernel_rfl)] at hL
  have HE := Ext.env_of hL
  obtain ⟨k, hk⟩ := Pure.WidthMost ss
  refine (QWidthTexts.domesdaylaw02_WidthMost.calls k a0 cap0 ss true W hC hle hk HE).mono fun e W' ⟨he, bel0⟩ => ?_
  have bel : Below W.heap.size W W' := bel0
  subst he
  exact ⟨_, rfl, _, _, _, [], _, [], hW', trodAll_mk1 (shut_bool Tryd.underlying4 _), (trodAll_cons_mk (Below.trod laidOut (by kernel_rfl) (of_decide_eq_true (by kernel_rfl)) k0 bel lt0) trodAll_mk0), rfl, bel.frame _, fun h => by cases h⟩
theorem over : Rows.widthMostRow.holds Tryd.pinned (OpenSpec.ofChange Rows.widthMostSpec) :=
  OpenClaim.holds_of_wide 4 Tryd.f4 rfl rfl rfl rfl rfl rfl rfl ⟨rfl, rfl, rfl, rfl, rfl⟩ rfl rfl rfl rfl rfl (by kernel_rfl) Tryd.func4 (by kernel_rfl)
    (of_decide_eq_true (by kernel_rfl)) (by unfold Func.isWrapper; first | (rw [if_pos (by decide +kernel)]; kernel_rfl) | (rw [if_neg (by decide +kernel)]; exact ⟨rfl, rfl⟩))
    (fun os started H enc _ => lifted os started H enc)
theorem proved : Rows.WidthMostCardSaid :=
  Claim7.holds_tied_plain_at .later [] [.data, .pinned] true (true, "3b8cc4aa9b60984cee0da34e6c9f20263de7c5310fd89f669d397ffa2af14f07") false over (fun _ h => by cases h) (by kernel_rfl) (fun _ h => by cases h) widthMost_row_tie rfl ⟨rfl, rfl⟩ (by kernel_rfl) rfl
    (fun f fn hf hfn => by
      obtain rfl : f = 4 := Option.some.inj ((show Tryd.prog.funcNamed "domesday/domesdaylaw02.WidthMost" = some 4 by kernel_rfl).symm.trans hf) |>.symm
      obtain rfl : fn = Tryd.f4 := (Option.some.inj (Tryd.func4.symm.trans hfn)).symm
      exact ⟨by kernel_rfl, fun j t ht => by
        rw [Tryd.params4] at ht
        have hm : t ∈ [26] := by simpa using Array.mem_of_getElem? ht
        have hall : ([26].all fun u => !Tryd.prog.wantsStandIn u) = true := by kernel_rfl
        exact (show Tryd.prog.wantsStandIn t = false by simpa using List.all_eq_true.1 hall t hm)⟩)
    (by kernel_rfl)
#print axioms proved
end Go.Proofs.YtngcecmfgjgigaaDoor.widthMost
namespace Go.Proofs.YtngcecmfgjgigaaDoor
/-- The row, under a short name, for the claim. -/
theorem widthMost_holds : Rows.WidthMostCardSaid := widthMost.proved
end Go.Proofs.YtngcecmfgjgigaaDoor
