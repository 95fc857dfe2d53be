import Derived.Test.YtlfldoghomnbkaaKXVt1
import Derived.Test.YtlfldoghomnbkaaRows
import Derived.Test.YtlfldoghomnbkaaKVRow
import Derived.WalkKit
import Derived.ProofKit
import Derived.OpenShut
import Derived.ShutString
import Derived.ChangeOld
import Derived.Below
import Derived.SizedLaws
-- Texts of this seat, what the claim does not reach struck out by a program.
section
namespace Go.Proofs.Ytlfldoghomnbkaa.QVfs
open Go.RowKit Go.Proofs.YtlfldoghomnbkaaW.PrintWords Go.Proofs.YtlfldoghomnbkaaW.PrintLast Go.Proofs.YtlfldoghomnbkaaW.PrintMore
set_option linter.unusedVariables false
def domesdaylaw06_VfsDevices.f (l : List S33) : Option Bool := if (l.all fun x => (Lit.int .i64 x.f7).wf) = true then some true else none
theorem domesdaylaw06_VfsDevices.calls (A : Option Addr) (c : Nat) (l : List S33) (r : Bool) (w : World) (hC : Kd.C k33 w A l.length l) (hc : l.length ≤ c) (h : domesdaylaw06_VfsDevices.f l = some r) :
  Calls Try.prog 5 #[.slice A l.length c] w fun e w' => e = .returned (.bool r) ∧ Below w.heap.size w w' := by
 unfold domesdaylaw06_VfsDevices.f at h
 split at h
 ·rename_i hw
  obtain rfl := Option.some.inj h
  refine vfsDevices_calls A c l w hC hc fun x hx => ?_
  have := List.all_eq_true.1 hw x hx
  simp [Lit.wf, IntKind.min, IntKind.max, IntKind.signed, IntKind.bits] at this
  omega
 ·cases h
end Go.Proofs.Ytlfldoghomnbkaa.QVfs
end

section
namespace Go.Proofs.Ytlfldoghomnbkaa.Pure
open Go.RowKit Go.Proofs.Ytlfldoghomnbkaa.QVfs
theorem VfsDevices (l : List S33) (hl : ∀ y ∈ l, ((Lit.int .i64 y.f0).wf = true) ∧ ((Lit.int .i64 y.f1).wf = true) ∧ ((Lit.int .i64 y.f2).wf = true) ∧ (y.f3.size ≤ maxLen) ∧ (y.f4.size ≤ maxLen) ∧ ((Lit.int .i64 y.f5).wf = true) ∧ ((Lit.int .i64 y.f6).wf = true) ∧ ((Lit.int .i64 y.f7).wf = true)) : domesdaylaw06_VfsDevices.f l = some true := by
  unfold domesdaylaw06_VfsDevices.f
  rw [if_pos (List.all_eq_true.2 fun y hy => (hl y hy).2.2.2.2.2.2.2)]
end Go.Proofs.Ytlfldoghomnbkaa.Pure
end

section
namespace Go.Proofs.Ytlfldoghomnbkaa.vfsDevices
open Go.ChangeShapes Go.WideShapes Go.ChangeAt Go.RowKit Go.Proofs.YtlfldoghomnbkaaW.VRow Go.Proofs.YtlfldoghomnbkaaW.VRow3 Go.Proofs.YtlfldoghomnbkaaW.PrintWords
open Go.ChangeMaps (open_string shut_string)
set_option linter.unusedVariables false
theorem own : ownKnob Try.prog.godebug = none := by kernel_rfl
theorem laidOut : laidOutB Try.prog = true := by kernel_rfl
theorem tells3 : TellsQ Try.prog 3 (Kd.int .i64) (fun x : Int => (Lit.int .i64 x).wf = true) := TellsQ.int Try.underlying3
theorem tells9 : TellsQ Try.prog 9 Kd.string (fun x : ByteArray => x.size ≤ maxLen) := TellsQ.str Try.underlying9
theorem tells2 : TellsQ Try.prog 2 (Kd.int .i64) (fun x : Int => (Lit.int .i64 x).wf = true) := TellsQ.int Try.underlying2
theorem tells33 : TellsQ Try.prog 33 QVfs.k33 (fun x : QVfs.S33 => ((Lit.int .i64 x.f0).wf = true) ∧ ((Lit.int .i64 x.f1).wf = true) ∧ ((Lit.int .i64 x.f2).wf = true) ∧ (x.f3.size ≤ maxLen) ∧ (x.f4.size ≤ maxLen) ∧ ((Lit.int .i64 x.f5).wf = true) ∧ ((Lit.int .i64 x.f6).wf = true) ∧ ((Lit.int .i64 x.f7).wf = true)) := TellsQ.iso (TellsQ.structA Try.underlying33 (by kernel_rfl) (TellsFQ.cons rfl (by kernel_rfl) tells3 (TellsFQ.cons rfl (by kernel_rfl) tells3 (TellsFQ.cons rfl (by kernel_rfl) tells3 (TellsFQ.cons rfl (by kernel_rfl) tells9 (TellsFQ.cons rfl (by kernel_rfl) tells9 (TellsFQ.cons rfl (by kernel_rfl) tells3 (TellsFQ.cons rfl (by kernel_rfl) tells3 (TellsFQ.one rfl (by kernel_rfl) tells2))))))))) (fun x : QVfs.S33 => (x.f0, x.f1, x.f2, x.f3, x.f4, x.f5, x.f6, x.f7)) (fun p => ⟨p.1, p.2.1, p.2.2.1, p.2.2.2.1, p.2.2.2.2.1, p.2.2.2.2.2.1, p.2.2.2.2.2.2.1, p.2.2.2.2.2.2.2⟩) (fun _ => rfl)
theorem tells41 : TellsQ Try.prog 41 (Kd.slice 33 QVfs.k33) (fun x : List _ => ∀ y33 ∈ x, ((Lit.int .i64 y33.f0).wf = true) ∧ ((Lit.int .i64 y33.f1).wf = true) ∧ ((Lit.int .i64 y33.f2).wf = true) ∧ (y33.f3.size ≤ maxLen) ∧ (y33.f4.size ≤ maxLen) ∧ ((Lit.int .i64 y33.f5).wf = true) ∧ ((Lit.int .i64 y33.f6).wf = true) ∧ ((Lit.int .i64 y33.f7).wf = true)) := TellsQ.slice Try.underlying41 tells33 (by kernel_rfl)
set_option maxRecDepth 100000 in
theorem lifted (os : Os) (started : os.Started) (H : Type) (enc : TypeId × Value → H) :
    ReturnsInHanded {} Try.checked os 5 .any (Rows.vfsDevicesSpec.pre6 enc Try.prog Try.f5 Rows.vfsDevicesRow.domain false) (Rows.vfsDevicesSpec.post enc Try.prog Try.f5 false true false false) := by
  refine returnsInHanded_of_change_sized (C := Try.checked) own started (by kernel_rfl) Try.func5
    (ChangeSpec.witness6 (enc := enc) (C := Try.checked) false ⟨#[], #[.slice none 0 0], []⟩ 8 (by kernel_rfl) (by kernel_rfl) (by kernel_rfl) (by kernel_rfl)) ?_
  intro W base args ds gs before hval0 hW hcnd hsz0 _
  have hsz : (DataW.weightsEach Try.prog (Try.f5.params.toList ++ Rows.vfsDevicesSpec.plain.varTypes Try.prog) (ds ++ gs)).all (· ≤ reachBytes) = true := hsz0
  have hval : ∀ (j : Nat) t v, Try.f5.params[j]? = some t → args[j]? = some v → Value.okWide Try.prog W .any base t v := hval0
  have hW' := hW
  obtain ⟨p, q, hA0, hV, rfl, hfz, hnd⟩ := hW
  have hA : DataW.TrodAll enc Try.prog W 0 (fun _ => true) true Try.f5.params.toList args.toList ds p := hA0
  rw [Try.params5] at hA hval hsz
  obtain ⟨v0, vs0, d0, ds0, p0, q0, hargs, rfl, rfl, h0, r0⟩ := trodAll_cons hA
  obtain ⟨rfl, rfl, rfl⟩ := trodAll_nil r0
  obtain rfl : args = #[v0] := by cases args; simp_all
  obtain ⟨rfl, rfl⟩ := trodVars_none hV
  obtain ⟨A0, n0, c0, rfl⟩ := okWide_slice Try.underlying41 (hval 0 41 v0 rfl rfl)
  have k0 := h0
  have lt0 : ∀ x ∈ p0, x.block < W.heap.size := by obtain ⟨m, hm⟩ := k0; exact DataW.trod_lt m _ _ _ hm
  obtain ⟨l0, C0, rfl, le0, w0⟩ := open_toldQ tells41 h0
  clear hA0 hval0 hsz0 hsz
  have hk := Pure.VfsDevices l0 w0
  refine (QVfs.domesdaylaw06_VfsDevices.calls A0 c0 l0 true W C0 le0 hk).mono fun e W' ⟨he, bel0⟩ => ?_
  have bel : Below W.heap.size W W' := bel0
  subst he
  exact ⟨_, rfl, _, _, _, [], _, [], hW', trodAll_mk1 (shut_bool Try.underlying4 _), (trodAll_cons_mk (Below.trod laidOut (by kernel_rfl) (of_decide_eq_true (by kernel_rfl)) k0 bel lt0) trodAll_mk0), rfl, bel.frame _, fun h => by cases h⟩
theorem over : Rows.vfsDevicesRow.holds Try.pinned (OpenSpec.ofChange Rows.vfsDevicesSpec) :=
  OpenClaim.holds_of_wide 5 Try.f5 rfl rfl rfl rfl rfl rfl rfl ⟨rfl, rfl, rfl, rfl, rfl⟩ rfl rfl rfl rfl rfl (by kernel_rfl) Try.func5 (by kernel_rfl)
    (of_decide_eq_true (by kernel_rfl)) (by unfold Func.isWrapper; first | (rw [if_pos (by decide +kernel)]; kernel_rfl) | (rw [if_neg (by decide +kernel)]; exact ⟨rfl, rfl⟩))
    (fun os started H enc _ => lifted os started H enc)
theorem proved : Rows.VfsDevicesSaid := over
#print axioms proved
end Go.Proofs.Ytlfldoghomnbkaa.vfsDevices
namespace Go.Proofs.Ytlfldoghomnbkaa
theorem vfsDevices_holds : Rows.VfsDevicesSaid := vfsDevices.proved
end Go.Proofs.Ytlfldoghomnbkaa
end
