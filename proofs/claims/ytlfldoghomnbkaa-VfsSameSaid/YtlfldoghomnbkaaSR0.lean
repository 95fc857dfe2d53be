import Derived.Test.YtlfldoghomnbkaaSQVfsR1
import Derived.Test.YtlfldoghomnbkaaSXVq0
import Derived.Test.YtlfldoghomnbkaaSXGood
-- Texts of this seat, what the claim does not reach struck out by a program.
section
namespace Go.Proofs.Ytlfldoghomnbkaa.QVfs
open Go.RowKit Go.Proofs.YtlfldoghomnbkaaW.PrintWords Go.Proofs.YtlfldoghomnbkaaW.PrintLast Go.Proofs.YtlfldoghomnbkaaW.PrintMore
set_option linter.unusedVariables false
set_option linter.unusedSimpArgs false
def Ref.has (R : Ref) (id : Int) : Bool := decide (0 ≤ id ∧ id < R.N.length)
theorem refHas_calls (R : Ref) (id : Int) (w : World) (vs : Array Value) (h : RefAt R w vs) :
  Calls Try.prog 39 #[.agg vs, .int .i64 id] w fun e w' => e = .returned (.bool (R.has id)) ∧ Below w.heap.size w w' := by
 obtain ⟨A0, c0, A1, c1, A2, c2, A3, c3, A4, c4, A5, c5, rfl, h0, h1, h2, h3, h4, h5⟩ := h
 refine domesdayref06_FS_Has.calls A0 c0 R.N A1 c1 R.L A2 c2 R.Cov A3 c3 R.Dead A4 c4 R.Above A5 c5 R.Firsts id _ w h0.1 h0.2 h1.1 h1.2 h2.1 h2.2 h3.1 h3.2 h4.1 h4.2 h5.1 h5.2 ?_
 unfold domesdayref06_FS_Has.f Ref.has
 by_cases g : id ≥ 0
 ·rw [if_pos g]; congr 1; exact decide_eq_decide.2 ⟨fun h => ⟨g, h⟩, fun h => h.2⟩
 ·rw [if_neg g]; congr 1; exact (decide_eq_false (fun h => g h.1)).symm
theorem rdR (l : List Int) (i : Nat) (h : i < l.length) : rd l (i : Int) = l[i] := by unfold rd; simp [h]
theorem first_l (R : Ref) (id : Int) (hl : R.Firsts.length ≤ 1000) : ∀ m i k : Nat, R.Firsts.length - i ≤ m → i ≤ R.Firsts.length → m + 1 ≤ k →
  domesdayref06_FS_first.l0 k id (i : Int) R.N R.L R.Cov R.Dead R.Above R.Firsts = some ((R.Firsts.drop i).contains id) := by
 have hend : ∀ k, 1 ≤ k → domesdayref06_FS_first.l0 k id ((R.Firsts.length : Nat) : Int) R.N R.L R.Cov R.Dead R.Above R.Firsts = some false := by
  intro k hk
  obtain ⟨k, rfl⟩ : ∃ j, k = j + 1 := ⟨k - 1, by omega⟩
  rw [domesdayref06_FS_first.l0, if_neg (by omega)]
 intro m
 induction m with
 | zero =>
  intro i k h1 h2 h3
  obtain rfl : i = R.Firsts.length := by omega
  rw [hend k (by omega), List.drop_length]; rfl
 | succ m ih =>
  intro i k h1 h2 h3
  by_cases g : i = R.Firsts.length
  ·subst g
   rw [hend k (by omega), List.drop_length]; rfl
  ·obtain ⟨k, rfl⟩ : ∃ j, k = j + 1 := ⟨k - 1, by omega⟩
   have hi : i < R.Firsts.length := by omega
   rw [domesdayref06_FS_first.l0, if_pos (by omega), if_pos (by omega), rdR _ i hi, List.drop_eq_getElem_cons hi, List.contains_cons]
   by_cases ga : R.Firsts[i] = id
   ·rw [if_pos ga, ga]; simp
   ·rw [if_neg ga, wrapR (by omega), ih (i + 1) k (by omega) (by omega) (by omega)]
    have : (id == R.Firsts[i]) = false := beq_eq_false_iff_ne.2 (fun e => ga e.symm)
    rw [this, Bool.false_or]
theorem refFirst_calls (R : Ref) (id : Int) (w : World) (vs : Array Value) (h : RefAt R w vs) (hl : R.Firsts.length ≤ 1000) :
  Calls Try.prog 56 #[.agg vs, .int .i64 id] w fun e w' => e = .returned (.bool (R.Firsts.contains id)) ∧ Below w.heap.size w w' := by
 obtain ⟨A0, c0, A1, c1, A2, c2, A3, c3, A4, c4, A5, c5, rfl, h0, h1, h2, h3, h4, h5⟩ := h
 refine domesdayref06_FS_first.calls 1001 A0 c0 R.N A1 c1 R.L A2 c2 R.Cov A3 c3 R.Dead A4 c4 R.Above A5 c5 R.Firsts id _ w h0.1 h0.2 h1.1 h1.2 h2.1 h2.2 h3.1 h3.2 h4.1 h4.2 h5.1 h5.2 ?_
 have := first_l R id hl 1000 0 1001 (by omega) (by omega) (by omega)
 exact this
end Go.Proofs.Ytlfldoghomnbkaa.QVfs
end

section
namespace Go.Proofs.Ytlfldoghomnbkaa.QVfs
open Go.RowKit Go.Proofs.YtlfldoghomnbkaaW.PrintWords Go.Proofs.YtlfldoghomnbkaaW.PrintLast Go.Proofs.YtlfldoghomnbkaaW.PrintMore
set_option linter.unusedVariables false
set_option linter.unusedSimpArgs false
def isBad (b : UInt8) : Bool := b == 0 || b == 47
theorem index_any : ∀ l : List UInt8, decide (0 ≤ Lib.indexAny l [0, 47]) = l.any isBad
 | [] => rfl
 | b :: l => by
  have ih := index_any l
  have hg := Lib.indexAny_ge [0, 47] l
  have hc : ([0, 47] : List UInt8).contains b = isBad b := by simp [isBad, List.contains, List.elem, Bool.or_comm]; cases h1 : b == 0 <;> cases h2 : b == 47 <;> simp_all
  rw [Lib.indexAny, hc, List.any_cons]
  cases hb : isBad b with
  | true => rfl
  | false =>
   simp only [Bool.false_or, if_false, Bool.false_eq_true, ← ih]
   by_cases h1 : Lib.indexAny l [0, 47] = -1
   ·rw [h1]; rfl
   ·rw [if_neg (by simpa using h1)]
    exact decide_eq_decide.2 (by omega)
theorem anyBad_eq (s : ByteArray) : anyBad s = s.data.toList.any isBad := index_any _
theorem wrapG (x : Int) (h : -9223372036854775808 ≤ x) (h' : x ≤ 9223372036854775807) : wrap64 x = x := by unfold wrap64; omega
abbrev bL (s : ByteArray) : List UInt8 := s.data.toList
theorem bL_len (s : ByteArray) : (bL s).length = s.size := by rw [Array.length_toList]; rfl
theorem bt_get (s : ByteArray) (i : Nat) (h : i < (bL s).length) : bt s (i : Int) = (((bL s)[i]'h).toNat : Int) := by
 have h' : i < s.size := by rw [← bL_len]; exact h
 unfold bt
 rw [dif_pos (by simpa using h')]
 simp [ByteArray.getElem_eq_getElem_data]
theorem bad_nat (b : UInt8) : isBad b = (decide ((b.toNat : Int) = 0) || decide ((b.toNat : Int) = 47)) := by
 revert b
 have h : ∀ n : Fin 256, isBad (UInt8.ofNat n.1) = (decide (((UInt8.ofNat n.1).toNat : Int) = 0) || decide (((UInt8.ofNat n.1).toNat : Int) = 47)) := by decide +kernel
 intro b
 have := h ⟨b.toNat, b.toNat_lt⟩
 simpa using this
def tailB (s : ByteArray) : Bool := decide (1 ≤ s.size) && (decide (s.size ≤ 255) && (!(s.toList == [46]) && !(s.toList == [46, 46])))
theorem ref_l (s : ByteArray) (hs : s.size ≤ 1000000) : ∀ m i k : Nat, s.size - i ≤ m → i ≤ s.size → m + 1 ≤ k →
  domesdayref06_Good.l0 k s (i : Int) = some (!((bL s).drop i).any isBad && tailB s) := by
 have hend : ∀ k, 1 ≤ k → domesdayref06_Good.l0 k s ((s.size : Nat) : Int) = some (tailB s) := by
  intro k hk
  obtain ⟨k, rfl⟩ : ∃ j, k = j + 1 := ⟨k - 1, by omega⟩
  rw [domesdayref06_Good.l0, if_neg (by omega)]
  unfold tailB
  by_cases g1 : 1 ≤ s.size
  ·rw [if_pos (by omega), decide_eq_true g1, Bool.true_and]
   by_cases g2 : s.size ≤ 255
   ·rw [if_pos (by omega), decide_eq_true g2, Bool.true_and]
    by_cases g3 : s.toList = [46]
    ·rw [if_pos g3]; simp [g3]
    ·rw [if_neg g3]
     have : (s.toList == [46]) = false := beq_eq_false_iff_ne.2 g3
     rw [this]; rfl
   ·rw [if_neg (by omega), decide_eq_false g2]; rfl
  ·rw [if_neg (by omega), decide_eq_false g1]; rfl
 intro m
 induction m with
 | zero =>
  intro i k h1 h2 h3
  obtain rfl : i = s.size := by omega
  rw [hend k (by omega), List.drop_eq_nil_of_le (by rw [bL_len]; omega)]; rfl
 | succ m ih =>
  intro i k h1 h2 h3
  by_cases g : i = s.size
  ·subst g
   rw [hend k (by omega), List.drop_eq_nil_of_le (by rw [bL_len]; omega)]; rfl
  ·obtain ⟨k, rfl⟩ : ∃ j, k = j + 1 := ⟨k - 1, by omega⟩
   have hi : i < (bL s).length := by rw [bL_len]; omega
   rw [domesdayref06_Good.l0, if_pos (by omega), if_pos (by omega), bt_get s i hi, List.drop_eq_getElem_cons hi, List.any_cons, bad_nat]
   by_cases g0 : (((bL s)[i]'hi).toNat : Int) = 0
   ·rw [if_pos g0, decide_eq_true g0]; rfl
   ·rw [if_neg g0, decide_eq_false g0]
    by_cases g1 : (((bL s)[i]'hi).toNat : Int) = 47
    ·rw [if_pos g1, decide_eq_true g1]; rfl
    ·rw [if_neg g1, decide_eq_false g1, wrapG _ (by omega) (by omega), show ((i : Int) + 1) = ((i + 1 : Nat) : Int) by omega, ih (i + 1) k (by omega) (by omega) (by omega)]
     rfl
theorem good_eq (s : ByteArray) : goodB s = (!(bL s).any isBad && tailB s) := by
 unfold goodB tailB
 rw [anyBad_eq]
 cases decide (1 ≤ s.size) <;> cases decide (s.size ≤ 255) <;> cases (bL s).any isBad <;> simp
theorem refGood_calls (s : ByteArray) (w : World) (hs : s.size ≤ 1000000) : Calls Try.prog 10 #[.string s] w fun e w' => e = .returned (.bool (goodB s)) ∧ Drawn0 w w' := by
 refine domesdayref06_Good.calls 1000001 s _ w ?_
 unfold domesdayref06_Good.f
 have := ref_l s hs 1000000 0 1000001 (by omega) (by omega) (by omega)
 rw [show ((0 : Nat) : Int) = 0 from rfl] at this
 rw [this, good_eq]; rfl
def Ref.n (R : Ref) (i : Int) : Node := rd_T36 R.N i
def Ref.placeE (R : Ref) (c : Chg) : Int :=
 if R.has c.f1 = true then (if (R.n c.f1).f2 = 2 then (if goodB c.f3 = true then (if R.L.any (fun x => x.f0 == c.f1 && x.f1.f0.toList == c.f3.toList) = true then 4 else 0) else 1) else 3) else 2
def Ref.restE (R : Ref) (c : Chg) : Int :=
 if (4 ≤ c.f0 ∨ c.f0 = 2) ∧ R.has c.f2 = false then 2
 else if c.f0 = 7 ∧ (R.n c.f2).f2 ≠ 2 then 3
 else if (c.f0 = 1 ∧ c.f7 < 0) ∨ (c.f0 = 2 ∧ ((R.n c.f2).f2 = 2 ∨ (R.n c.f2).f0 ≠ (R.n c.f1).f0)) ∨ (c.f0 = 6 ∧ (c.f5 < 0 ∨ 2 < c.f5)) ∨ (c.f0 = 7 ∧ (0 ≤ rd R.Cov c.f2 ∨ R.Firsts.contains c.f2 = true)) then 1
 else if c.f0 = 3 ∧ (c.f4.data.toList.any (· == 0) = true ∨ c.f4.toList = [] ∨ (4096 : Int) < c.f4.size) then 1
 else if (c.f0 < 2 ∨ c.f0 = 3 ∨ c.f0 = 7) ∧ 300 ≤ R.N.length then 9 else 0
def Ref.wrongE (R : Ref) (c : Chg) : Int :=
 if c.f0 < 0 ∨ 8 < c.f0 then 1 else if c.f0 < 4 ∧ R.placeE c ≠ 0 then R.placeE c else R.restE c
theorem nodeR {w : World} {ad : Addr} {n : Nat} {xs : List Node} (h : Kd.C k36 w (some ad) n xs) (i : Int) (h0 : 0 ≤ i) (h1 : i < n) :
  w.cell? (ad.add (i.toNat * 13)) = some (.int .i64 (rd_T36 xs i).f0) ∧ w.cell? ⟨(ad.add (i.toNat * 13)).block, (ad.add (i.toNat * 13)).off + 2, none⟩ = some (.int .i64 (rd_T36 xs i).f2) := by
 obtain ⟨ad', he, n0, n1, n2, _⟩ := at_T36 h i h0 h1
 obtain rfl := Option.some.inj he
 exact ⟨n0, n2⟩
theorem intR {w : World} {ad : Addr} {n : Nat} {xs : List Int} (h : Kd.C (Kd.int .i64) w (some ad) n xs) (i : Int) (h0 : 0 ≤ i) (h1 : i < n) : w.cell? (ad.add i.toNat) = some (.int .i64 (rd xs i)) := by
 obtain ⟨ad', he, n0⟩ := Kd.at_int h i h0 h1
 obtain rfl := Option.some.inj he
 exact n0
def Ref.hit (R : Ref) (at_ : Int) (name : ByteArray) (j : Nat) : Bool := decide ((rd_T81 R.L (j : Int)).f0 = at_) && decide ((rd_T81 R.L (j : Int)).f1.f0.toList = name.toList)
end Go.Proofs.Ytlfldoghomnbkaa.QVfs
end
