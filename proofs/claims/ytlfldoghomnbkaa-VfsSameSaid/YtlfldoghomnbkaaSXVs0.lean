import Derived.Test.YtlfldoghomnbkaaSXVr9
import Derived.Test.YtlfldoghomnbkaaSXVq2
-- Texts of this seat, what the claim does not reach struck out by a program.
namespace Go.Proofs.Ytlfldoghomnbkaa.QVfs
open Go.RowKit Go.Proofs.YtlfldoghomnbkaaW.PrintWords Go.Proofs.YtlfldoghomnbkaaW.PrintLast Go.Proofs.YtlfldoghomnbkaaW.PrintMore
set_option linter.unusedVariables false
set_option linter.unusedSimpArgs false
structure DoAt (b : Nat) (us : Array Value) (cs : Array Value) (W : World) : Prop where
 f : W.heap[b]? = some (.cells us TR (0, 0))
 c : W.heap[b + 1]? = some (.cells cs TC (0, 0))
 r : W.heap[b + 1 + 1]? = some (.cells #[.slice none 0 0, .slice none 0 0, .slice none 0 0, .slice none 0 0, .slice none 0 0, .slice none 0 0] TR (0, 0))
theorem DoAt.below {b : Nat} {us cs : Array Value} {W W1 : World} (h : DoAt b us cs W) (hb : Below W.heap.size W W1) : DoAt b us cs W1 :=
 ⟨(hb.block b (blk_lt h.f)).trans h.f, (hb.block _ (blk_lt h.c)).trans h.c, (hb.block _ (blk_lt h.r)).trans h.r⟩
theorem DoAt.set {b : Nat} {us cs : Array Value} {W : World} (h : DoAt b us cs W) (j : Nat) (u : Value) : DoAt b (us.setIfInBounds j u) cs (W.setCell ⟨b, j, none⟩ u) :=
 ⟨blk_set h.f j u, blk_far h.c (p := ⟨b, j, none⟩) (show b + 1 ≠ b by omega) u, blk_far h.r (p := ⟨b, j, none⟩) (show b + 1 + 1 ≠ b by omega) u⟩
section
variable {P : Program} {ops : Array Oper} {rest : List Oper} {o : Oper} {a : Act} {Q : Exit → Act → World → Prop} {α : Type}
end
section
variable {R : Ref} {w : World} {ok : Nat → Prop} {A0 A1 A2 A3 A4 A5 : Option Addr} {n0 n1 n2 n3 n4 n5 c0 c1 c2 c3 c4 c5 : Nat}
end
section
variable {P : Program} {ops : Array Oper} {o : Oper} {a : Act} {Q : Exit → Act → World → Prop} {Kc : Act → World → Prop} {α : Type}
end
theorem item_C {W : World} {gi : Nat} {x : RItem} (h : W.heap[gi]? = some (.cells #[.int .i64 x.f0, .string x.f1.f0, .int .i64 x.f1.f1] TL (0, 0))) : kL.C W (some ⟨gi, 0, none⟩) 1 [x] := by
 refine ⟨rfl, by decide, fun _ => ⟨_, rfl, fun j p hj => ?_⟩⟩
 have hj0 : j = 0 := by have := (List.getElem?_eq_some_iff.1 hj).1; simp at this; exact this
 subst hj0
 obtain rfl : x = p := by simpa using hj
 refine ⟨_, rfl, k81_mk W x, fun i u hu => ?_⟩
 rw [Addr.add_lit]
 simp only [Nat.zero_mul, Nat.zero_add]
 rw [blk_cell h i]
 simpa using hu
def Joined (wd : World) (L : List RItem) (x : RItem) (s : Value × Value × Value) (w' : World) : Prop :=
 ∃ gi, s.2.2 = .slice (some ⟨gi, 0, none⟩) 1 1 ∧ kL.R TL w' wd.heap.size (fun k => wd.heap.size ≤ k ∧ k ≠ gi) s.2.1 L ∧ w'.heap[gi]? = some (.cells #[.int .i64 x.f0, .string x.f1.f0, .int .i64 x.f1.f1] TL (0, 0)) ∧ wd.heap.size ≤ gi ∧ Below wd.heap.size wd w'
end Go.Proofs.Ytlfldoghomnbkaa.QVfs
