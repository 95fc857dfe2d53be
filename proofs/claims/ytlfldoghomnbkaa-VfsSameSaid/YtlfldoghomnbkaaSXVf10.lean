import Derived.Test.YtlfldoghomnbkaaSXVf9
-- Texts of this seat, what the claim does not reach struck out by a program.
namespace Go.Proofs.Ytlfldoghomnbkaa.QVfs
open Go.RowKit Go.Proofs.YtlfldoghomnbkaaW.PrintWords Go.Proofs.YtlfldoghomnbkaaW.PrintLast Go.Proofs.YtlfldoghomnbkaaW.PrintMore
set_option linter.unusedVariables false
set_option linter.unusedSimpArgs false
set_option maxHeartbeats 4000000 in
set_option maxRecDepth 100000 in
theorem do_low (g : Nat) (c : Chg) (w : World) (P : Int → Int → World → Prop) (hk0 : 0 ≤ c.f0) (hk : c.f0 < 4)
  (h : ∀ W, Below w.heap.size w W → Calls Try.prog 26 #[.pointer (some ⟨g, 0, none⟩), .agg (encC c).toArray] W fun e w' => ∃ n x, e = .returned (.tuple #[.int .i64 n, .int .i64 x]) ∧ P n x w') :
  Calls Try.prog 12 #[.pointer (some ⟨g, 0, none⟩), .agg (encC c).toArray] w fun e w' => ∃ n x, e = .returned (.tuple #[.int .i64 n, .int .i64 x]) ∧ P n x w' := by
 obtain ⟨x0, x1, x2, x3, x4, x5, x6, x7⟩ := c
 simp only at hk0 hk
 obtain ⟨W, hW⟩ : ∃ W : World, W = w.alloc (.cells #[.int .i64 x0, .int .i64 x1, .int .i64 x2, .string x3, .string x4, .int .i64 x5, .int .i64 x6, .int .i64 x7] TC) := ⟨_, rfl⟩
 have hB : Below w.heap.size w W := by rw [hW]; exact (Below.refl _ w).alloc (Nat.le_refl _) _
 have b0 : W.heap[w.heap.size]? = some (.cells #[.int .i64 x0, .int .i64 x1, .int .i64 x2, .string x3, .string x4, .int .i64 x5, .int .i64 x6, .int .i64 x7] TC (0, 0)) := by rw [hW]; exact heap_alloc_new w _
 have hlt : w.heap.size < W.heap.size := by rw [hW]; simp
 have HB := Aside0.mk hB
 have HB0 := Aside0.mk b0
 have HC := Aside0.mk h
 unfold encC at HC ⊢
 clear h
 obtain ⟨q0, q1, q2, q3, q4, q5, q6, q7⟩ := box_cells b0
 have d1 : decide (x0 < 0) = false := decide_eq_false (by omega)
 have d2 : decide ((8 : Int) < x0) = false := decide_eq_false (by omega)
 have d3 : decide (x0 < 4) = true := decide_eq_true hk
 clear hB b0
 go_enter Try.func12, Try.ntmps12
 go_wp2_with fail
 rw [← hW]
 clear hW
 refine (HC.out W HB.out).mono ?_
 rintro e w1 ⟨n, x, rfl, hp⟩
 go_wp2
 go_ret2
 exact ⟨n, x, rfl, hp⟩
def chgA : Chg := ⟨0, 0, 0, ⟨#[97]⟩, ⟨#[]⟩, 0, 0, 0⟩
theorem chgA_wrong : Fs.new.wrongE chgA = 0 := by kernel_rfl
set_option maxHeartbeats 4000000 in
set_option maxRecDepth 100000 in
theorem chgA_calls (base g : Nat) (ok : Nat → Prop) (w : World) (h : FsAt base g ok Fs.new w) :
  Calls Try.prog 12 #[.pointer (some ⟨g, 0, none⟩), .agg (encC chgA).toArray] w fun e w' => ∃ n x, e = .returned (.tuple #[.int .i64 n, .int .i64 x]) ∧ (n = 1 ∧ x = 0 ∧ FsAt base g (fun k => ok k ∨ w.heap.size ≤ k) ((Fs.new.make (newN (Fs.new.it 0).f0.f0 chgA) (newUp chgA)).put 0 chgA.f3 1) w' ∧ Held w w' ok) := by
 refine do_low g chgA w _ (by decide) (by decide) (fun W hB => ?_)
 refine (entry_dir base g _ Fs.new chgA W (h.tight.below hB) (by decide) chgA_wrong rfl (by decide) (by decide) (by decide) (by decide)).mono ?_
 rintro e w' ⟨rfl, h1, h2⟩
 refine ⟨1, 0, rfl, rfl, rfl, FsAt.weak h1 (fun k hk => ?_), ?_⟩
 ·rcases hk with hk | hk
  ·exact Or.inl hk.1
  ·exact Or.inr (Nat.le_trans hB.size hk)
 ·exact (Held.of_below hB _).then_ h2 (fun k hk => Or.inl hk.1)
end Go.Proofs.Ytlfldoghomnbkaa.QVfs
