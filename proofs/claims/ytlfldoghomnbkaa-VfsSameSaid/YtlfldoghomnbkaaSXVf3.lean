import Derived.Test.YtlfldoghomnbkaaSXVf2
-- Texts of this seat, what the claim does not reach struck out by a program.
namespace Go.Proofs.Ytlfldoghomnbkaa.QVfs
open Go.RowKit Go.Proofs.YtlfldoghomnbkaaW.PrintWords Go.Proofs.YtlfldoghomnbkaaW.PrintLast Go.Proofs.YtlfldoghomnbkaaW.PrintMore
set_option linter.unusedVariables false
set_option linter.unusedSimpArgs false
theorem Fs.dirE_zero {F : Fs} {id : Int} (h : F.dirE id = 0) : (0 ≤ id ∧ id < F.I.length) ∧ (F.it id).f0.f2 = 2 := by
 unfold Fs.dirE at h
 split at h
 ·rename_i hh
  split at h
  ·rename_i h2; exact ⟨of_decide_eq_true hh, h2⟩
  ·cases h
 ·cases h
def Fs.linkT (F : Fs) (id : Int) : ByteArray := if F.has id = true then (if (F.it id).f0.f2 = 3 then (if (F.it id).f4 = true then ⟨#[]⟩ else (F.it id).f0.f10) else ⟨#[]⟩) else ⟨#[]⟩
def Fs.linkE (F : Fs) (id : Int) : Int := if F.has id = true then (if (F.it id).f0.f2 = 3 then (if (F.it id).f4 = true then 8 else 0) else 1) else 2
set_option maxHeartbeats 2000000 in
theorem link_calls (g : Nat) (F : Fs) (id : Int) (w : World) (h : FsR g F w) :
  Calls Try.prog 22 #[.pointer (some ⟨g, 0, none⟩), .int .i64 id] w fun e w' => e = .returned (.tuple #[.string (F.linkT id), .int .i64 (F.linkE id)]) ∧ w = w' := by
 have hR := Aside0.mk h
 obtain ⟨A0, c0, A1, c1, A2, c2, hb, l0, l1, h1, h2, h3⟩ := h
 have k0 : w.cell? ⟨g, 0, none⟩ = some (.slice A0 F.I.length c0) := (blk_cell hb 0).trans rfl
 clear hb h2 h3
 unfold Fs.linkT Fs.linkE
 by_cases gg : 0 ≤ id ∧ id < F.I.length
 ·have hh := Fs.has_yes gg.1 gg.2
  obtain ⟨g0, g1⟩ := gg
  rw [hh, if_pos rfl, if_pos rfl]
  obtain ⟨ad, A13, c13, rfl, q⟩ := at_T74 h1 id g0 g1
  have q2 := q.2.2.1
  have q3 := q.2.2.2.2.2.2.2.2.2.2.2.2.1
  have q4 := q.2.2.2.2.2.2.2.2.2.2.2.2.2.2.2.2.1
  clear q h1
  have hh' := Aside0.mk hh
  clear hh
  show Calls _ _ _ _ fun e w' => e = .returned (.tuple #[.string (if (rd_T74 F.I id).f0.f2 = 3 then (if (rd_T74 F.I id).f4 = true then ⟨#[]⟩ else (rd_T74 F.I id).f0.f10) else ⟨#[]⟩), .int .i64 (if (rd_T74 F.I id).f0.f2 = 3 then (if (rd_T74 F.I id).f4 = true then 8 else 0) else 1)]) ∧ w = w'
  generalize (rd_T74 F.I id).f0.f2 = x at *
  generalize (rd_T74 F.I id).f0.f10 = y at *
  generalize (rd_T74 F.I id).f4 = z at *
  by_cases g2 : x = 3
  ·rw [if_pos g2, if_pos g2]
   have b2 : (x != 3) = false := by rw [g2]; rfl
   clear g2
   cases z with
   | true =>
    rw [if_pos rfl, if_pos rfl]
    go_enter Try.func22, Try.ntmps22
    go_wp2_with (go_at_call 27; refine (is_calls g F id _ hR.out).mono ?_; rw [hh'.out]; rintro e w' ⟨rfl, rfl⟩)
    go_ret2
    exact ⟨rfl, rfl⟩
   | false =>
    rw [if_neg (by simp), if_neg (by simp)]
    go_enter Try.func22, Try.ntmps22
    go_wp2_with (go_at_call 27; refine (is_calls g F id _ hR.out).mono ?_; rw [hh'.out]; rintro e w' ⟨rfl, rfl⟩)
    go_ret2
    exact ⟨rfl, rfl⟩
  ·rw [if_neg g2, if_neg g2]
   have b2 : (x != 3) = true := by rw [bne_iff_ne]; exact g2
   clear g2
   go_enter Try.func22, Try.ntmps22
   go_wp2_with (go_at_call 27; refine (is_calls g F id _ hR.out).mono ?_; rw [hh'.out]; rintro e w' ⟨rfl, rfl⟩)
   go_ret2
   exact ⟨rfl, rfl⟩
 ·have hh := Fs.has_no gg
  rw [hh, if_neg (by simp), if_neg (by simp)]
  have hh' := Aside0.mk hh
  clear hh h1 gg
  go_enter Try.func22, Try.ntmps22
  go_wp2_with (go_at_call 27; refine (is_calls g F id _ hR.out).mono ?_; rw [hh'.out]; rintro e w' ⟨rfl, rfl⟩)
  go_ret2
  exact ⟨rfl, rfl⟩
def Fs.nodeN (F : Fs) (id : Int) : Node := if F.has id = true then (F.it id).f0 else z36
def Fs.nodeE (F : Fs) (id : Int) : Int := if F.has id = true then 0 else 2
set_option maxHeartbeats 4000000 in
set_option maxRecDepth 100000 in
theorem node_calls (g : Nat) (F : Fs) (id : Int) (w : World) (h : FsR g F w) :
  Calls Try.prog 13 #[.pointer (some ⟨g, 0, none⟩), .int .i64 id] w fun e w' => e = .returned (.tuple #[.agg (encN (F.nodeN id)).toArray, .int .i64 (F.nodeE id)]) ∧ Below w.heap.size w w' := by
 unfold Fs.nodeN Fs.nodeE
 by_cases gg : 0 ≤ id ∧ id < F.I.length
 ·have hh := Fs.has_yes gg.1 gg.2
  obtain ⟨g0, g1⟩ := gg
  rw [hh, if_pos rfl, if_pos rfl]
  have hh' := Aside0.mk hh
  clear hh
  show Calls _ _ _ _ fun e w' => e = .returned (.tuple #[.agg (encN (rd_T74 F.I id).f0).toArray, .int .i64 0]) ∧ Below w.heap.size w w'
  have hR := Aside0.mk h
  obtain ⟨A0, c0, A1, c1, A2, c2, hb, l0, l1, h1, h2, h3⟩ := h
  have hlt := blk_lt hb
  have k0 : w.cell? ⟨g, 0, none⟩ = some (.slice A0 F.I.length c0) := (blk_cell hb 0).trans rfl
  clear hb h2 h3
  obtain ⟨ad, A13, c13, rfl, q0, q1, q2, q3, q4, q5, q6, q7, q8, q9, q10, q11, q12, q13⟩ := at_T74 h1 id g0 g1
  clear h1 q13
  have hB := (Below.refl w.heap.size w).alloc (Nat.le_refl _) (.cells #[.int .i64 0, .int .i64 0, .int .i64 0, .int .i64 0, .int .i64 0, .int .i64 0, .int .i64 0, .int .i64 0, .int .i64 0, .int .i64 0, .int .i64 0, .int .i64 0, .string ⟨#[]⟩] TN)
  replace q0 := pw_cell_below hB q0
  replace q1 := pw_cell_below hB q1
  replace q2 := pw_cell_below hB q2
  replace q3 := pw_cell_below hB q3
  replace q4 := pw_cell_below hB q4
  replace q5 := pw_cell_below hB q5
  replace q6 := pw_cell_below hB q6
  replace q7 := pw_cell_below hB q7
  replace q8 := pw_cell_below hB q8
  replace q9 := pw_cell_below hB q9
  replace q10 := pw_cell_below hB q10
  replace q11 := pw_cell_below hB q11
  replace q12 := pw_cell_below hB q12
  clear hB
  unfold encN
  generalize rd_T74 F.I id = x at *
  go_enter Try.func13, Try.ntmps13
  go_wp2_with (go_at_call 27; refine (is_calls g F id _ (hR.out.below ((Below.refl _ w).alloc (Nat.le_refl _) _))).mono ?_; rw [hh'.out]; rintro e w' ⟨rfl, rfl⟩)
  refine bodyPost_ret (v := .tuple #[.agg #[.int .i64 x.f0.f0, .int .i64 x.f0.f1, .int .i64 x.f0.f2, .int .i64 x.f0.f3, .int .i64 x.f0.f4, .int .i64 x.f0.f5, .int .i64 x.f0.f6, .int .i64 x.f0.f7, .int .i64 x.f0.f8, .int .i64 x.f0.f9.f0, .int .i64 x.f0.f9.f1, .int .i64 x.f0.f9.f2, .string x.f0.f10], .int .i64 0]) (by simp [results, Try.results13, go_sem]) rfl ⟨rfl, ?_⟩
  exact (Below.refl _ _).alloc (Nat.le_refl _) _
 ·have hh := Fs.has_no gg
  rw [hh, if_neg (by simp), if_neg (by simp)]
  have hh' := Aside0.mk hh
  clear hh gg
  have hR := Aside0.mk h
  clear h
  unfold encN
  go_enter Try.func13, Try.ntmps13
  go_wp2_with (go_at_call 27; refine (is_calls g F id _ (hR.out.below ((Below.refl _ w).alloc (Nat.le_refl _) _))).mono ?_; rw [hh'.out]; rintro e w' ⟨rfl, rfl⟩)
  refine bodyPost_ret (v := .tuple #[.agg #[.int .i64 0, .int .i64 0, .int .i64 0, .int .i64 0, .int .i64 0, .int .i64 0, .int .i64 0, .int .i64 0, .int .i64 0, .int .i64 0, .int .i64 0, .int .i64 0, .string ⟨#[]⟩], .int .i64 2]) (by simp [results, Try.results13, go_sem]) rfl ⟨rfl, ?_⟩
  exact (Below.refl _ _).alloc (Nat.le_refl _) _
end Go.Proofs.Ytlfldoghomnbkaa.QVfs
