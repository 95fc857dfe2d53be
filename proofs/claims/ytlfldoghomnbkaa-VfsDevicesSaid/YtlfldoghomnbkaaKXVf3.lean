import Derived.Test.YtlfldoghomnbkaaKXVf2
-- Texts of this seat, what the claim does not reach struck out by a program.
namespace Go.Proofs.Ytlfldoghomnbkaa.QVfs
open Go.RowKit Go.Proofs.YtlfldoghomnbkaaW.PrintWords Go.Proofs.YtlfldoghomnbkaaW.PrintLast Go.Proofs.YtlfldoghomnbkaaW.PrintMore
set_option linter.unusedVariables false
set_option linter.unusedSimpArgs false
set_option maxHeartbeats 1000000 in
theorem count_calls (g : Nat) (F : Fs) (w : World) (h : FsR g F w) :
  Calls Try.prog 14 #[.pointer (some ⟨g, 0, none⟩)] w fun e w' => e = .returned (.int .i64 F.I.length) ∧ w = w' := by
 obtain ⟨A0, c0, A1, c1, A2, c2, hb, l0, l1, h1, h2, h3⟩ := h
 have k0 : w.cell? ⟨g, 0, none⟩ = some (.slice A0 F.I.length c0) := (z4_ hb 0).trans rfl
 clear hb h1 h2 h3
 go_enter Try.func14, Try.ntmps14
 go_wp2
 go_ret
 exact ⟨rfl, rfl⟩
theorem Fs.dirE_zero {F : Fs} {id : Int} (h : F.dirE id = 0) : (0 ≤ id ∧ id < F.I.length) ∧ (F.it id).f0.f2 = 2 := by
 unfold Fs.dirE at h
 split at h
 ·rename_i hh
  split at h
  ·rename_i h2; exact ⟨of_decide_eq_true hh, h2⟩
  ·cases h
 ·cases h
def Fs.nodeN (F : Fs) (id : Int) : Node := if F.has id = true then (F.it id).f0 else z36
def Fs.nodeE (F : Fs) (id : Int) : Int := if F.has id = true then 0 else 2
set_option maxHeartbeats 4000000 in
set_option maxRecDepth 100000 in
theorem node_calls (g : Nat) (F : Fs) (id : Int) (w : World) (h : FsR g F w) :
  Calls Try.prog 13 #[.pointer (some ⟨g, 0, none⟩), .int .i64 id] w fun e w' => e = .returned (.tuple #[.agg (encN (F.nodeN id)).toArray, .int .i64 (F.nodeE id)]) ∧ Below w.heap.size w w' := by
 unfold Fs.nodeN Fs.nodeE
 by_cases gg : 0 ≤ id ∧ id < F.I.length
 ·have hh := Fs.has_yes gg.1 gg.2
  obtain ⟨g0, g1⟩ := gg
  rw [hh, if_pos rfl, if_pos rfl]
  have hh' := z1_.mk hh
  clear hh
  show Calls _ _ _ _ fun e w' => e = .returned (.tuple #[.agg (encN (rd_T74 F.I id).f0).toArray, .int .i64 0]) ∧ Below w.heap.size w w'
  have hR := z1_.mk h
  obtain ⟨A0, c0, A1, c1, A2, c2, hb, l0, l1, h1, h2, h3⟩ := h
  have hlt := zj_ hb
  have k0 : w.cell? ⟨g, 0, none⟩ = some (.slice A0 F.I.length c0) := (z4_ hb 0).trans rfl
  clear hb h2 h3
  obtain ⟨ad, A13, c13, rfl, q0, q1, q2, q3, q4, q5, q6, q7, q8, q9, q10, q11, q12, q13⟩ := at_T74 h1 id g0 g1
  clear h1 q13
  have hB := (y6_ w.heap.size w).alloc (y2_ _) (.cells #[.int .i64 0, .int .i64 0, .int .i64 0, .int .i64 0, .int .i64 0, .int .i64 0, .int .i64 0, .int .i64 0, .int .i64 0, .int .i64 0, .int .i64 0, .int .i64 0, .string ⟨#[]⟩] TN)
  replace q0 := z2_ hB q0
  replace q1 := z2_ hB q1
  replace q2 := z2_ hB q2
  replace q3 := z2_ hB q3
  replace q4 := z2_ hB q4
  replace q5 := z2_ hB q5
  replace q6 := z2_ hB q6
  replace q7 := z2_ hB q7
  replace q8 := z2_ hB q8
  replace q9 := z2_ hB q9
  replace q10 := z2_ hB q10
  replace q11 := z2_ hB q11
  replace q12 := z2_ hB q12
  clear hB
  unfold encN
  generalize rd_T74 F.I id = x at *
  go_enter Try.func13, Try.ntmps13
  go_wp2_with (go_at_call 27; refine (is_calls g F id _ (hR.out.below ((y6_ _ w).alloc (y2_ _) _))).mono ?_; rw [hh'.out]; rintro e w' ⟨rfl, rfl⟩)
  refine bodyPost_ret (v := .tuple #[.agg #[.int .i64 x.f0.f0, .int .i64 x.f0.f1, .int .i64 x.f0.f2, .int .i64 x.f0.f3, .int .i64 x.f0.f4, .int .i64 x.f0.f5, .int .i64 x.f0.f6, .int .i64 x.f0.f7, .int .i64 x.f0.f8, .int .i64 x.f0.f9.f0, .int .i64 x.f0.f9.f1, .int .i64 x.f0.f9.f2, .string x.f0.f10], .int .i64 0]) (by simp [results, Try.results13, go_sem]) rfl ⟨rfl, ?_⟩
  exact (y6_ _ _).alloc (y2_ _) _
 ·have hh := Fs.has_no gg
  rw [hh, if_neg (by simp), if_neg (by simp)]
  have hh' := z1_.mk hh
  clear hh gg
  have hR := z1_.mk h
  clear h
  unfold encN
  go_enter Try.func13, Try.ntmps13
  go_wp2_with (go_at_call 27; refine (is_calls g F id _ (hR.out.below ((y6_ _ w).alloc (y2_ _) _))).mono ?_; rw [hh'.out]; rintro e w' ⟨rfl, rfl⟩)
  refine bodyPost_ret (v := .tuple #[.agg #[.int .i64 0, .int .i64 0, .int .i64 0, .int .i64 0, .int .i64 0, .int .i64 0, .int .i64 0, .int .i64 0, .int .i64 0, .int .i64 0, .int .i64 0, .int .i64 0, .string ⟨#[]⟩], .int .i64 2]) (by simp [results, Try.results13, go_sem]) rfl ⟨rfl, ?_⟩
  exact (y6_ _ _).alloc (y2_ _) _
end Go.Proofs.Ytlfldoghomnbkaa.QVfs
