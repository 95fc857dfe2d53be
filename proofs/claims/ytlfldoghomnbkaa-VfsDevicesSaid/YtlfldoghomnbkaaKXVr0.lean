import Derived.Test.YtlfldoghomnbkaaKQVfsR1
import Derived.Test.YtlfldoghomnbkaaKXVf15
-- Texts of this seat, what the claim does not reach struck out by a program.
namespace Go.Proofs.Ytlfldoghomnbkaa.QVfs
open Go.RowKit Go.Proofs.YtlfldoghomnbkaaW.PrintWords Go.Proofs.YtlfldoghomnbkaaW.PrintLast Go.Proofs.YtlfldoghomnbkaaW.PrintMore
set_option linter.unusedVariables false
set_option linter.unusedSimpArgs false
abbrev zy_ := S81
structure Ref where
 N : List Node
 L : List zy_
 Cov : List Int
 Dead : List Bool
 Above : List Int
 Firsts : List Int
def RefAt (R : Ref) (w : World) (vs : Array Value) : Prop :=
 ∃ A0 c0 A1 c1 A2 c2 A3 c3 A4 c4 A5 c5, vs = #[.slice A0 R.N.length c0, .slice A1 R.L.length c1, .slice A2 R.Cov.length c2, .slice A3 R.Dead.length c3, .slice A4 R.Above.length c4, .slice A5 R.Firsts.length c5] ∧
  (Kd.C k36 w A0 R.N.length R.N ∧ R.N.length ≤ c0) ∧ (Kd.C k81 w A1 R.L.length R.L ∧ R.L.length ≤ c1) ∧ (Kd.C (Kd.int .i64) w A2 R.Cov.length R.Cov ∧ R.Cov.length ≤ c2) ∧ (Kd.C Kd.bool w A3 R.Dead.length R.Dead ∧ R.Dead.length ≤ c3) ∧ (Kd.C (Kd.int .i64) w A4 R.Above.length R.Above ∧ R.Above.length ≤ c4) ∧ (Kd.C (Kd.int .i64) w A5 R.Firsts.length R.Firsts ∧ R.Firsts.length ≤ c5)
theorem RefAt.below {R : Ref} {w w' : World} {vs : Array Value} (h : RefAt R w vs) (hb : Below w.heap.size w w') : RefAt R w' vs := by
 obtain ⟨A0, c0, A1, c1, A2, c2, A3, c3, A4, c4, A5, c5, e, h0, h1, h2, h3, h4, h5⟩ := h
 exact ⟨A0, c0, A1, c1, A2, c2, A3, c3, A4, c4, A5, c5, e, ⟨Kd.C_below h0.1 hb, h0.2⟩, ⟨Kd.C_below h1.1 hb, h1.2⟩, ⟨Kd.C_below h2.1 hb, h2.2⟩, ⟨Kd.C_below h3.1 hb, h3.2⟩, ⟨Kd.C_below h4.1 hb, h4.2⟩, ⟨Kd.C_below h5.1 hb, h5.2⟩⟩
def Ref.has (R : Ref) (id : Int) : Bool := decide (0 ≤ id ∧ id < R.N.length)
theorem zh_ (R : Ref) (id : Int) (w : World) (vs : Array Value) (h : RefAt R w vs) :
  Calls Try.prog 39 #[.agg vs, .int .i64 id] w fun e w' => e = .returned (.bool (R.has id)) ∧ Below w.heap.size w w' := by
 obtain ⟨A0, c0, A1, c1, A2, c2, A3, c3, A4, c4, A5, c5, rfl, h0, h1, h2, h3, h4, h5⟩ := h
 refine r6FS_Has.calls A0 c0 R.N A1 c1 R.L A2 c2 R.Cov A3 c3 R.Dead A4 c4 R.Above A5 c5 R.Firsts id _ w h0.1 h0.2 h1.1 h1.2 h2.1 h2.2 h3.1 h3.2 h4.1 h4.2 h5.1 h5.2 ?_
 unfold r6FS_Has.f Ref.has
 by_cases g : id ≥ 0
 ·rw [if_pos g]; congr 1; exact decide_eq_decide.2 ⟨fun h => ⟨g, h⟩, fun h => h.2⟩
 ·rw [if_neg g]; congr 1; exact (y3_ (fun h => g h.1)).symm
theorem wrapR {i : Nat} (h : i ≤ 10000000) : wrap64 ((i : Int) + 1) = ((i + 1 : Nat) : Int) := by unfold wrap64; omega
theorem rdR (l : List Int) (i : Nat) (h : i < l.length) : rd l (i : Int) = l[i] := by unfold rd; simp [h]
theorem first_l (R : Ref) (id : Int) (hl : R.Firsts.length ≤ 1000) : ∀ m i k : Nat, R.Firsts.length - i ≤ m → i ≤ R.Firsts.length → m + 1 ≤ k →
  r6FS_first.l0 k id (i : Int) R.N R.L R.Cov R.Dead R.Above R.Firsts = some ((R.Firsts.drop i).contains id) := by
 have hend : ∀ k, 1 ≤ k → r6FS_first.l0 k id ((R.Firsts.length : Nat) : Int) R.N R.L R.Cov R.Dead R.Above R.Firsts = some false := by
  intro k hk
  obtain ⟨k, rfl⟩ : ∃ j, k = j + 1 := ⟨k - 1, by omega⟩
  rw [r6FS_first.l0, if_neg (by omega)]
 intro m
 induction m with
 | zero =>
  intro i k h1 h2 h3
  obtain rfl : i = R.Firsts.length := by omega
  rw [hend k (by omega), List.drop_length]; rfl
 | succ m ih =>
  intro i k h1 h2 h3
  by_cases g : i = R.Firsts.length
  ·subst g
   rw [hend k (by omega), List.drop_length]; rfl
  ·obtain ⟨k, rfl⟩ : ∃ j, k = j + 1 := ⟨k - 1, by omega⟩
   have hi : i < R.Firsts.length := by omega
   rw [r6FS_first.l0, if_pos (by omega), if_pos (by omega), rdR _ i hi, List.drop_eq_getElem_cons hi, List.contains_cons]
   by_cases ga : R.Firsts[i] = id
   ·rw [if_pos ga, ga]; simp
   ·rw [if_neg ga, wrapR (by omega), ih (i + 1) k (by omega) (by omega) (by omega)]
    have : (id == R.Firsts[i]) = false := beq_eq_false_iff_ne.2 (fun e => ga e.symm)
    rw [this, Bool.false_or]
theorem refFirst_calls (R : Ref) (id : Int) (w : World) (vs : Array Value) (h : RefAt R w vs) (hl : R.Firsts.length ≤ 1000) :
  Calls Try.prog 56 #[.agg vs, .int .i64 id] w fun e w' => e = .returned (.bool (R.Firsts.contains id)) ∧ Below w.heap.size w w' := by
 obtain ⟨A0, c0, A1, c1, A2, c2, A3, c3, A4, c4, A5, c5, rfl, h0, h1, h2, h3, h4, h5⟩ := h
 refine r6FS_first.calls 1001 A0 c0 R.N A1 c1 R.L A2 c2 R.Cov A3 c3 R.Dead A4 c4 R.Above A5 c5 R.Firsts id _ w h0.1 h0.2 h1.1 h1.2 h2.1 h2.2 h3.1 h3.2 h4.1 h4.2 h5.1 h5.2 ?_
 have := first_l R id hl 1000 0 1001 (by omega) (by omega) (by omega)
 exact this
end Go.Proofs.Ytlfldoghomnbkaa.QVfs
