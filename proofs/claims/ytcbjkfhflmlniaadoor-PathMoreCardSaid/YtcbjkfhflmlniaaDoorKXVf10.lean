import Derived.Test.YtcbjkfhflmlniaaDoorKXVf9
-- Texts of this seat, what the claim does not reach struck out by a program.
namespace Go.Proofs.YtcbjkfhflmlniaaDoor.QVfs
open Go.RowKit Go.Proofs.YtcbjkfhflmlniaaDoorW.PrintWords Go.Proofs.YtcbjkfhflmlniaaDoorW.PrintLast Go.Proofs.YtcbjkfhflmlniaaDoorW.PrintMore
set_option linter.unusedVariables false
set_option linter.unusedSimpArgs false
set_option maxHeartbeats 4000000 in
set_option maxRecDepth 100000 in
theorem do_low (g : Nat) (c : Chg) (w : World) (P : Int → Int → World → Prop) (hk0 : 0 ≤ c.f0) (hk : c.f0 < 4)
  (h : ∀ W, Below w.heap.size w W → Calls Tryd.prog 32 #[.pointer (some ⟨g, 0, none⟩), .agg (encC c).toArray] W fun e w' => ∃ n x, e = .returned (.tuple #[.int .i64 n, .int .i64 x]) ∧ P n x w') :
  Calls Tryd.prog 17 #[.pointer (some ⟨g, 0, none⟩), .agg (encC c).toArray] w fun e w' => ∃ n x, e = .returned (.tuple #[.int .i64 n, .int .i64 x]) ∧ P n x w' := by
 obtain ⟨x0, x1, x2, x3, x4, x5, x6, x7⟩ := c
 simp only at hk0 hk
 obtain ⟨W, hW⟩ : ∃ W : World, W = w.alloc (.cells #[.int .i64 x0, .int .i64 x1, .int .i64 x2, .string x3, .string x4, .int .i64 x5, .int .i64 x6, .int .i64 x7] TC) := ⟨_, rfl⟩
 have hB : Below w.heap.size w W := by rw [hW]; exact (Below.refl _ w).alloc (Nat.le_refl _) _
 have b0 : W.heap[w.heap.size]? = some (.cells #[.int .i64 x0, .int .i64 x1, .int .i64 x2, .string x3, .string x4, .int .i64 x5, .int .i64 x6, .int .i64 x7] TC (0, 0)) := by rw [hW]; exact heap_alloc_new w _
 have hlt : w.heap.size < W.heap.size := by rw [hW]; simp
 have HB := Aside0.mk hB
 have HB0 := Aside0.mk b0
 have HC := Aside0.mk h
 unfold encC at HC ⊢
 clear h
 obtain ⟨q0, q1, q2, q3, q4, q5, q6, q7⟩ := box_cells b0
 have d1 : decide (x0 < 0) = false := decide_eq_false (by omega)
 have d2 : decide ((8 : Int) < x0) = false := decide_eq_false (by omega)
 have d3 : decide (x0 < 4) = true := decide_eq_true hk
 clear hB b0
 go_enter Tryd.func17, Tryd.ntmps17
 go_wp2_with fail
 rw [← hW]
 clear hW
 refine (HC.out W HB.out).mono ?_
 rintro e w1 ⟨n, x, rfl, hp⟩
 go_wp2
 go_ret2
 exact ⟨n, x, rfl, hp⟩
end Go.Proofs.YtcbjkfhflmlniaaDoor.QVfs
