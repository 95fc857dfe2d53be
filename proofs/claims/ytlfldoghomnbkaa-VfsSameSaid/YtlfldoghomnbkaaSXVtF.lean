import Derived.Test.YtlfldoghomnbkaaSXVs11
-- Texts of this seat, what the claim does not reach struck out by a program.
namespace Go.Proofs.Ytlfldoghomnbkaa.QVfs
open Go.RowKit Go.Proofs.YtlfldoghomnbkaaW.PrintWords Go.Proofs.YtlfldoghomnbkaaW.PrintLast Go.Proofs.YtlfldoghomnbkaaW.PrintMore
set_option linter.unusedVariables false
set_option linter.unusedSimpArgs false
def fewP (x : Chg) : Bool := decide ((x.f3.size : Int) ≤ 300) && decide ((x.f4.size : Int) ≤ 5000)
def fewB (l : List Chg) (n : Int) : Bool := (l.take 400).all fewP && decide ((l.length : Int) ≤ n)
theorem few_l (l : List Chg) (n : Int) : ∀ m i k : Nat, (l.take 400).length - i ≤ m → i ≤ (l.take 400).length → 2 * m + 2 ≤ k →
  domesdayref06_Few.l0 k l n (i : Int) = some (((l.take 400).drop i).all fewP && decide ((l.length : Int) ≤ n)) := by
 have hlen : (l.take 400).length = min 400 l.length := List.length_take
 have hend : ∀ k, 2 ≤ k → domesdayref06_Few.l0 k l n (((l.take 400).length : Nat) : Int) = some (decide ((l.length : Int) ≤ n)) := by
  intro k hk
  obtain ⟨k, rfl⟩ : ∃ j, k = j + 2 := ⟨k - 2, by omega⟩
  by_cases g : l.length ≤ 400
  ·rw [domesdayref06_Few.l0, if_neg (by omega), domesdayref06_Few.j1, if_neg (by decide)]
  ·rw [domesdayref06_Few.l0, if_pos (by omega), show (decide ((((l.take 400).length : Nat) : Int) < 400)) = false from decide_eq_false (by omega), domesdayref06_Few.j1, if_neg (by decide)]
 intro m
 induction m with
 | zero =>
  intro i k h1 h2 h3
  obtain rfl : i = (l.take 400).length := by omega
  rw [hend k (by omega), List.drop_length]; rfl
 | succ m ih =>
  intro i k h1 h2 h3
  by_cases g : i = (l.take 400).length
  ·subst g
   rw [hend k (by omega), List.drop_length]; rfl
  ·obtain ⟨k, rfl⟩ : ∃ j, k = j + 2 := ⟨k - 2, by omega⟩
   have hi : i < (l.take 400).length := by omega
   have hil : i < l.length := by omega
   have hx : rd_T33 l (i : Int) = (l.take 400)[i] := by unfold rd_T33; simp [hil]
   rw [domesdayref06_Few.l0, if_pos (by omega), show decide ((i : Int) < 400) = true from decide_eq_true (by omega), domesdayref06_Few.j1, if_pos rfl, if_pos (by omega), if_pos (by omega), hx, List.drop_eq_getElem_cons hi, List.all_cons]
   have hu : fewP ((l.take 400)[i]) = (decide ((((l.take 400)[i]).f3.size : Int) ≤ 300) && decide ((((l.take 400)[i]).f4.size : Int) ≤ 5000)) := rfl
   by_cases g3 : (((l.take 400)[i]).f3.size : Int) > 300
   ·rw [if_pos g3, hu, decide_eq_false (by omega)]; rfl
   ·rw [if_neg g3]
    by_cases g4 : (((l.take 400)[i]).f4.size : Int) > 5000
    ·rw [if_pos g4, hu, decide_eq_false (show ¬ ((((l.take 400)[i]).f4.size : Int) ≤ 5000) by omega), Bool.and_false]; rfl
    ·rw [if_neg g4, wrapR (by omega), ih (i + 1) k (by omega) (by omega) (by omega), hu, decide_eq_true (show ((((l.take 400)[i]).f3.size : Int) ≤ 300) by omega), decide_eq_true (show ((((l.take 400)[i]).f4.size : Int) ≤ 5000) by omega)]; rfl
theorem few_calls (A : Option Addr) (c : Nat) (l : List Chg) (n : Int) (w : World) (hC : Kd.C k33 w A l.length l) (hc : l.length ≤ c) :
  Calls Try.prog 15 #[.slice A l.length c, .int .i64 n] w fun e w' => e = .returned (.bool (fewB l n)) ∧ Below w.heap.size w w' := by
 refine (domesdayref06_Few.calls 1002 A c l n _ w hC hc (few_l l n 400 0 1002 (by rw [List.length_take]; omega) (Nat.zero_le _) (by omega))).mono ?_
 rintro e w' ⟨he, hd⟩
 exact ⟨he, hd.below⟩
theorem few_small {l : List Chg} {n : Int} (h : fewB l n = true) (hn : n ≤ 400) (h7 : ∀ x ∈ l, x.f7 ≤ 9223372036854775807) : (∀ x ∈ l, Small x) ∧ (l.length : Int) ≤ n := by
 unfold fewB at h
 rw [Bool.and_eq_true, decide_eq_true_eq] at h
 obtain ⟨h1, h2⟩ := h
 rw [List.take_of_length_le (by omega), List.all_eq_true] at h1
 refine ⟨fun x hx => ?_, h2⟩
 have := h1 x hx
 unfold fewP at this
 rw [Bool.and_eq_true, decide_eq_true_eq, decide_eq_true_eq] at this
 exact ⟨by omega, by omega, h7 x hx⟩
end Go.Proofs.Ytlfldoghomnbkaa.QVfs
