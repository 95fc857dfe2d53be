import Derived.Test.YtlfldoghomnbkaaKXVf15
import Derived.Test.YtlfldoghomnbkaaKShelf
-- Texts of this seat, what the claim does not reach struck out by a program.
namespace Go.Proofs.Ytlfldoghomnbkaa.QVfs
open Go.RowKit Go.Proofs.YtlfldoghomnbkaaW.PrintWords Go.Proofs.YtlfldoghomnbkaaW.PrintLast Go.Proofs.YtlfldoghomnbkaaW.PrintMore
set_option linter.unusedVariables false
set_option linter.unusedSimpArgs false
theorem FsW.form2 {base g : Nat} {F : Fs} {w : World} {v1 v2 v3 : Value} {es : List Value} (h : FsW base g F w v1 v2 v3 es) (hp : 0 < F.D.length) : ∃ gc cap, v2 = .slice (some ⟨gc, 0, none⟩) F.D.length cap ∧ F.D.length ≤ cap := by
 rcases h.rD.2 with ⟨_, h0⟩ | ⟨gc, cap, cur, hv, _, _, hn, _⟩
 ·omega
 ·exact ⟨gc, cap, hv, hn⟩
theorem FsW.cD {base g : Nat} {F : Fs} {w : World} {v1 v3 : Value} {es : List Value} {gc cap : Nat} (h : FsW base g F w v1 (.slice (some ⟨gc, 0, none⟩) F.D.length cap) v3 es) (d : Nat) (hd : d < F.D.length) :
  w.cell? ⟨gc, d, none⟩ = some (.int .i64 (F.D.getD d 0)) := by
 obtain ⟨h1, h2⟩ := own_cell h.rD d (by rw [nums, List.length_map]; exact hd)
 rw [nums, List.getElem?_map, List.getElem?_eq_getElem hd] at h1
 refine h1.trans ?_
 rw [List.getD_eq_getElem?_getD, List.getElem?_eq_getElem hd]; rfl
set_option maxHeartbeats 4000000 in
set_option maxRecDepth 100000 in
theorem devices_calls (base g : Nat) (ok : Nat → Prop) (F : Fs) (w : World) (h : FsAt base g ok F w) (hD : 0 < F.D.length) (hl : F.D.length ≤ 1000) :
  Calls Try.prog 17 #[.pointer (some ⟨g, 0, none⟩)] w fun e w' => ∃ v, e = .returned v ∧ w'.ownsRow w.heap.size TZ 1 v F.D.length (nums .i64 F.D) ∧ Below w.heap.size w w' := by
 obtain ⟨v1, v2, v3, es, hF, hok⟩ := h
 obtain ⟨gd, cap, rfl, hcap⟩ := hF.form2 hD
 have k1 : w.cell? ⟨g, 1, none⟩ = some (.slice (some ⟨gd, 0, none⟩) F.D.length cap) := (z4_ hF.blk 1).trans rfl
 have hcl := Try.slices_Clone_int gd 0 F.D.length cap F.D w (y2_ _) (by omega) (fun j hj => by rw [Nat.zero_add]; exact hF.cD j hj)
 rw [List.take_length] at hcl
 have HCL := z1_.mk hcl
 clear hcl hF hok hD hl hcap
 go_enter Try.func17, Try.ntmps17
 go_wp2_with fail
 refine HCL.out.mono ?_
 rintro e w1 ⟨v, rfl, h1, _, h3⟩
 go_wp2
 go_ret
 exact ⟨v, rfl, h1, h3⟩
end Go.Proofs.Ytlfldoghomnbkaa.QVfs
