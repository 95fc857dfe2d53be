import Derived.Test.YtlfldoghomnbkaaKXVr0
import Derived.Test.YtlfldoghomnbkaaKXGood
-- Texts of this seat, what the claim does not reach struck out by a program.
namespace Go.Proofs.Ytlfldoghomnbkaa.QVfs
open Go.RowKit Go.Proofs.YtlfldoghomnbkaaW.PrintWords Go.Proofs.YtlfldoghomnbkaaW.PrintLast Go.Proofs.YtlfldoghomnbkaaW.PrintMore
set_option linter.unusedVariables false
set_option linter.unusedSimpArgs false
def isBad (b : UInt8) : Bool := b == 0 || b == 47
theorem index_any : ∀ l : List UInt8, decide (0 ≤ Lib.indexAny l [0, 47]) = l.any isBad
 | [] => rfl
 | b :: l => by
  have ih := index_any l
  have hg := Lib.indexAny_ge [0, 47] l
  have hc : ([0, 47] : List UInt8).contains b = isBad b := by simp [isBad, List.contains, List.elem, Bool.or_comm]; cases h1 : b == 0 <;> cases h2 : b == 47 <;> simp_all
  rw [Lib.indexAny, hc, List.any_cons]
  cases hb : isBad b with
  | true => rfl
  | false =>
   simp only [Bool.false_or, if_false, Bool.false_eq_true, ← ih]
   by_cases h1 : Lib.indexAny l [0, 47] = -1
   ·rw [h1]; rfl
   ·rw [if_neg (by simpa using h1)]
    exact decide_eq_decide.2 (by omega)
theorem anyBad_eq (s : ByteArray) : anyBad s = s.data.toList.any isBad := index_any _
theorem wrapG (x : Int) (h : -9223372036854775808 ≤ x) (h' : x ≤ 9223372036854775807) : wrap64 x = x := by unfold wrap64; omega
abbrev bL (s : ByteArray) : List UInt8 := s.data.toList
theorem bL_len (s : ByteArray) : (bL s).length = s.size := by rw [Array.length_toList]; rfl
theorem bt_get (s : ByteArray) (i : Nat) (h : i < (bL s).length) : bt s (i : Int) = (((bL s)[i]'h).toNat : Int) := by
 have h' : i < s.size := by rw [← bL_len]; exact h
 unfold bt
 rw [dif_pos (by simpa using h')]
 simp [ByteArray.getElem_eq_getElem_data]
theorem bad_nat (b : UInt8) : isBad b = (decide ((b.toNat : Int) = 0) || decide ((b.toNat : Int) = 47)) := by
 revert b
 have h : ∀ n : Fin 256, isBad (UInt8.ofNat n.1) = (decide (((UInt8.ofNat n.1).toNat : Int) = 0) || decide (((UInt8.ofNat n.1).toNat : Int) = 47)) := by decide +kernel
 intro b
 have := h ⟨b.toNat, b.toNat_lt⟩
 simpa using this
def tailB (s : ByteArray) : Bool := decide (1 ≤ s.size) && (decide (s.size ≤ 255) && (!(s.toList == [46]) && !(s.toList == [46, 46])))
theorem ref_l (s : ByteArray) (hs : s.size ≤ 1000000) : ∀ m i k : Nat, s.size - i ≤ m → i ≤ s.size → m + 1 ≤ k →
  r6Good.l0 k s (i : Int) = some (!((bL s).drop i).any isBad && tailB s) := by
 have hend : ∀ k, 1 ≤ k → r6Good.l0 k s ((s.size : Nat) : Int) = some (tailB s) := by
  intro k hk
  obtain ⟨k, rfl⟩ : ∃ j, k = j + 1 := ⟨k - 1, by omega⟩
  rw [r6Good.l0, if_neg (by omega)]
  unfold tailB
  by_cases g1 : 1 ≤ s.size
  ·rw [if_pos (by omega), y4_ g1, Bool.true_and]
   by_cases g2 : s.size ≤ 255
   ·rw [if_pos (by omega), y4_ g2, Bool.true_and]
    by_cases g3 : s.toList = [46]
    ·rw [if_pos g3]; simp [g3]
    ·rw [if_neg g3]
     have : (s.toList == [46]) = false := beq_eq_false_iff_ne.2 g3
     rw [this]; rfl
   ·rw [if_neg (by omega), y3_ g2]; rfl
  ·rw [if_neg (by omega), y3_ g1]; rfl
 intro m
 induction m with
 | zero =>
  intro i k h1 h2 h3
  obtain rfl : i = s.size := by omega
  rw [hend k (by omega), List.drop_eq_nil_of_le (by rw [bL_len]; omega)]; rfl
 | succ m ih =>
  intro i k h1 h2 h3
  by_cases g : i = s.size
  ·subst g
   rw [hend k (by omega), List.drop_eq_nil_of_le (by rw [bL_len]; omega)]; rfl
  ·obtain ⟨k, rfl⟩ : ∃ j, k = j + 1 := ⟨k - 1, by omega⟩
   have hi : i < (bL s).length := by rw [bL_len]; omega
   rw [r6Good.l0, if_pos (by omega), if_pos (by omega), bt_get s i hi, List.drop_eq_getElem_cons hi, List.any_cons, bad_nat]
   by_cases g0 : (((bL s)[i]'hi).toNat : Int) = 0
   ·rw [if_pos g0, y4_ g0]; rfl
   ·rw [if_neg g0, y3_ g0]
    by_cases g1 : (((bL s)[i]'hi).toNat : Int) = 47
    ·rw [if_pos g1, y4_ g1]; rfl
    ·rw [if_neg g1, y3_ g1, wrapG _ (by omega) (by omega), show ((i : Int) + 1) = ((i + 1 : Nat) : Int) by omega, ih (i + 1) k (by omega) (by omega) (by omega)]
     rfl
theorem good_eq (s : ByteArray) : goodB s = (!(bL s).any isBad && tailB s) := by
 unfold goodB tailB
 rw [anyBad_eq]
 cases decide (1 ≤ s.size) <;> cases decide (s.size ≤ 255) <;> cases (bL s).any isBad <;> simp
theorem zs_ (s : ByteArray) (w : World) (hs : s.size ≤ 1000000) : Calls Try.prog 10 #[.string s] w fun e w' => e = .returned (.bool (goodB s)) ∧ zn_ w w' := by
 refine r6Good.calls 1000001 s _ w ?_
 unfold r6Good.f
 have := ref_l s hs 1000000 0 1000001 (by omega) (by omega) (by omega)
 rw [show ((0 : Nat) : Int) = 0 from rfl] at this
 rw [this, good_eq]; rfl
def Ref.n (R : Ref) (i : Int) : Node := zl_ R.N i
def Ref.placeE (R : Ref) (c : Chg) : Int :=
 if R.has c.f1 = true then (if (R.n c.f1).f2 = 2 then (if goodB c.f3 = true then (if R.L.any (fun x => x.f0 == c.f1 && x.f1.f0.toList == c.f3.toList) = true then 4 else 0) else 1) else 3) else 2
def Ref.restE (R : Ref) (c : Chg) : Int :=
 if (4 ≤ c.f0 ∨ c.f0 = 2) ∧ R.has c.f2 = false then 2
 else if c.f0 = 7 ∧ (R.n c.f2).f2 ≠ 2 then 3
 else if (c.f0 = 1 ∧ c.f7 < 0) ∨ (c.f0 = 2 ∧ ((R.n c.f2).f2 = 2 ∨ (R.n c.f2).f0 ≠ (R.n c.f1).f0)) ∨ (c.f0 = 6 ∧ (c.f5 < 0 ∨ 2 < c.f5)) ∨ (c.f0 = 7 ∧ (0 ≤ rd R.Cov c.f2 ∨ R.Firsts.contains c.f2 = true)) then 1
 else if c.f0 = 3 ∧ (c.f4.data.toList.any (· == 0) = true ∨ c.f4.toList = [] ∨ (4096 : Int) < c.f4.size) then 1
 else if (c.f0 < 2 ∨ c.f0 = 3 ∨ c.f0 = 7) ∧ 300 ≤ R.N.length then 9 else 0
def Ref.wrongE (R : Ref) (c : Chg) : Int :=
 if c.f0 < 0 ∨ 8 < c.f0 then 1 else if c.f0 < 4 ∧ R.placeE c ≠ 0 then R.placeE c else R.restE c
end Go.Proofs.Ytlfldoghomnbkaa.QVfs
