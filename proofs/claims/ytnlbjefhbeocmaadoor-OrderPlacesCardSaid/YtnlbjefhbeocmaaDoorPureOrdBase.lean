/- What the orders compute, and that each is total: the base of the laws on sorting. -/
import Derived.Test.YtnlbjefhbeocmaaDoorQOrderComparesx6
import Derived.OpenShut
import Derived.Lib.Bytealg
import Derived.Lib.TrimByte
namespace Go.Proofs.YtnlbjefhbeocmaaDoor.Pure
open Go.RowKit Go.Proofs.YtnlbjefhbeocmaaDoor.QOrderCompares Go.Proofs.YtnlbjefhbeocmaaDoor.Ext Go.Proofs.YtnlbjefhbeocmaaDoorW.PrintWords Go.Proofs.YtnlbjefhbeocmaaDoorW.PrintLast Go.Proofs.YtnlbjefhbeocmaaDoorW.PrintMore
set_option linter.unusedVariables false
set_option linter.unusedSimpArgs false

theorem wrap_id (x : Int) (h : -9223372036854775808 ≤ x) (h' : x ≤ 9223372036854775807) : wrap64 x = x := by unfold wrap64; omega
abbrev L (s : ByteArray) : List UInt8 := s.data.toList
theorem L_len (s : ByteArray) : (L s).length = s.size := by rw [Array.length_toList]; rfl
theorem L_inj (s t : ByteArray) (h : L s = L t) : s = t := by
  cases s; cases t; congr 1; exact Array.toList_inj.1 h
theorem bt_get (s : ByteArray) (i : Nat) (h : i < (L s).length) : bt s (i : Int) = (((L s)[i]'h).toNat : Int) := by
  have h' : i < s.size := by rw [← L_len]; exact h
  unfold bt
  rw [dif_pos (by simpa using h')]
  simp [ByteArray.getElem_eq_getElem_data]
theorem bt_head (s : ByteArray) (i : Nat) (c : UInt8) (cs : List UInt8) (h : (L s).drop i = c :: cs) : bt s (i : Int) = (c.toNat : Int) ∧ i < s.size ∧ (L s).drop (i + 1) = cs := by
  have hl : i < (L s).length := by
    by_cases g : i < (L s).length
    · exact g
    · rw [List.drop_eq_nil_of_le (by omega)] at h; cases h
  have e := List.drop_eq_getElem_cons hl
  rw [h] at e
  injection e with e1 e2
  exact ⟨by rw [bt_get s i hl, e1], by rw [← L_len]; exact hl, e2.symm⟩
theorem L_extract (s : ByteArray) (a b : Nat) : L (s.extract a b) = ((L s).drop a).take (b - a) := by
  show (s.extract a b).data.toList = _
  rw [ByteArray.data_extract, Array.toList_extract, List.extract_eq_take_drop]
theorem L_extract_end (s : ByteArray) (a : Nat) : L (s.extract a s.size) = (L s).drop a := by
  rw [L_extract, ← L_len, ← List.length_drop, List.take_length]

/-! ### extensions -/
def lastIdx (s : ByteArray) (c : Int) : Nat → Int
  | 0 => -1
  | n + 1 => if bt s (n : Int) = c then (n : Int) else lastIdx s c n
theorem last_eq (s : ByteArray) (c : Int) : ∀ n k : Nat, n ≤ s.size → n < 4611686018427387904 → n < k → bytealg_LastIndexByteString.l0 k s c ((n : Int) - 1) = some (lastIdx s c n)
  | 0, 0, _, _, h => absurd h (by omega)
  | 0, k + 1, _, _, _ => by simp [bytealg_LastIndexByteString.l0, lastIdx]
  | n + 1, 0, _, _, h => absurd h (by omega)
  | n + 1, k + 1, hn, hb, hk => by
    rw [bytealg_LastIndexByteString.l0, show ((n + 1 : Nat) : Int) - 1 = (n : Int) from by omega, if_pos (by omega), if_pos (by omega), if_pos (by omega), lastIdx, wrap_id _ (by omega) (by omega), last_eq s c n k (by omega) (by omega) (by omega)]
    split <;> rfl
theorem last_bound (s : ByteArray) (c : Int) : ∀ n : Nat, -1 ≤ lastIdx s c n ∧ lastIdx s c n < n
  | 0 => by simp [lastIdx]
  | n + 1 => by
    have := last_bound s c n
    unfold lastIdx
    split <;> omega
def extS (s : ByteArray) : ByteArray := if lastIdx s 46 s.size > 0 then s.extract (lastIdx s 46 s.size).toNat s.size else ⟨#[]⟩
theorem ext_eq (s : ByteArray) (hs : s.size ≤ 300) (k : Nat) (hk : 302 ≤ k) : order_Ext.f k s = some (extS s) := by
  have hb := last_bound s 46 s.size
  rw [order_Ext.f, strings_LastIndexByte.f, bytealg_LastIndexByteString.f, wrap_id _ (by omega) (by omega), last_eq s 46 s.size k (by omega) (by omega) (by omega)]
  simp only [Option.bind_some, extS]
  by_cases g : lastIdx s 46 s.size > 0
  · rw [if_pos g, if_pos g, if_pos (by omega), if_pos (by omega)]
  · rw [if_neg g, if_neg g]
theorem rext_l (s : ByteArray) (hs : s.size ≤ 300) : ∀ n k : Nat, n ≤ s.size → n < k → domesdayref10_Ext.l0 k s ((n : Int) - 1) = some (if lastIdx s 46 n > 0 then s.extract (lastIdx s 46 n).toNat s.size else ⟨#[]⟩)
  | 0, 0, _, h => absurd h (by omega)
  | 0, k + 1, _, _ => by simp [domesdayref10_Ext.l0, lastIdx]
  | n + 1, 0, _, h => absurd h (by omega)
  | n + 1, k + 1, hn, hk => by
    rw [domesdayref10_Ext.l0, show ((n + 1 : Nat) : Int) - 1 = (n : Int) from by omega, lastIdx]
    by_cases g0 : (n : Int) > 0
    · rw [if_pos g0, if_pos (by omega), if_pos (by omega), wrap_id _ (by omega) (by omega), rext_l s hs n k (by omega) (by omega)]
      by_cases g : bt s (n : Int) = 46
      · rw [if_pos g, if_pos (by omega), if_pos g, if_pos (by omega)]
      · rw [if_neg g, if_neg g]
    · rw [if_neg g0]
      obtain rfl : n = 0 := by omega
      by_cases g : bt s ((0 : Nat) : Int) = 46
      · rw [if_pos g]; simp
      · rw [if_neg g]; simp [lastIdx]
theorem rext_eq (s : ByteArray) (hs : s.size ≤ 300) (k : Nat) (hk : 302 ≤ k) : domesdayref10_Ext.f k s = some (extS s) := by
  rw [domesdayref10_Ext.f, wrap_id _ (by omega) (by omega), rext_l s hs s.size k (by omega) (by omega)]
  rfl

/-! ### texts -/
abbrev cb (a b : ByteArray) : Int := Lib.compareBytes (L a) (L b)
theorem cmpB_self : ∀ a : List UInt8, Lib.compareBytes a a = 0
  | [] => rfl
  | a :: as' => by
    have : ¬ a < a := by simp
    rw [Lib.compareBytes, if_neg this, if_neg this, cmpB_self as']
theorem cmpB_zero : ∀ a b : List UInt8, Lib.compareBytes a b = 0 → a = b
  | [], [], _ => rfl
  | [], _ :: _, h => by simp [Lib.compareBytes] at h
  | _ :: _, [], h => by simp [Lib.compareBytes] at h
  | a :: as', b :: bs, h => by
    rw [Lib.compareBytes] at h
    split at h
    · cases h
    · split at h
      · cases h
      · next h1 h2 =>
        have : a = b := by
          apply UInt8.toNat_inj.1
          simp only [UInt8.lt_iff_toNat_lt] at h1 h2
          omega
        rw [this, cmpB_zero as' bs h]
theorem cb_zero (a b : ByteArray) : cb a b = 0 ↔ a = b := ⟨fun h => L_inj _ _ (cmpB_zero _ _ h), fun h => by subst h; exact cmpB_self _⟩
theorem less_l (a b : ByteArray) (ha : a.size ≤ 1000000) (hb : b.size ≤ 1000000) : ∀ m i k : Nat, a.size - i ≤ m → i ≤ a.size → i ≤ b.size → 2 * m + 2 ≤ k →
    domesdayref10_Less.l0 k a b (i : Int) = some (Lib.compareBytes ((L a).drop i) ((L b).drop i)) := by
  intro m
  induction m with
  | zero =>
    intro i k h1 h2 h3 hk
    obtain ⟨k, rfl⟩ : ∃ j, k = j + 2 := ⟨k - 2, by omega⟩
    rw [domesdayref10_Less.l0, if_neg (by omega), domesdayref10_Less.j1, if_neg (by simp)]
    rw [List.drop_eq_nil_of_le (show (L a).length ≤ i from by rw [L_len]; omega)]
    by_cases g : i < b.size
    · rw [if_pos (by omega)]
      rw [List.drop_eq_getElem_cons (show i < (L b).length from by rw [L_len]; exact g)]; rfl
    · rw [if_neg (by omega), if_neg (by omega), List.drop_eq_nil_of_le (show (L b).length ≤ i from by rw [L_len]; omega)]; rfl
  | succ m ih =>
    intro i k h1 h2 h3 hk
    obtain ⟨k, rfl⟩ : ∃ j, k = j + 2 := ⟨k - 2, by omega⟩
    by_cases ga : i < a.size
    · have ea := List.drop_eq_getElem_cons (show i < (L a).length from by rw [L_len]; exact ga)
      by_cases gb : i < b.size
      · have eb := List.drop_eq_getElem_cons (show i < (L b).length from by rw [L_len]; exact gb)
        rw [domesdayref10_Less.l0, if_pos (by omega), domesdayref10_Less.j1, if_pos (by simpa using gb), if_pos (by omega), if_pos (by omega), if_pos (by omega), ea, eb, Lib.compareBytes,
          bt_get a i (by rw [L_len]; exact ga), bt_get b i (by rw [L_len]; exact gb), wrap_id _ (by omega) (by omega), show ((i : Int) + 1) = ((i + 1 : Nat) : Int) from by omega, ih (i + 1) k (by omega) (by omega) (by omega) (by omega)]
        simp only [UInt8.lt_iff_toNat_lt, Int.ofNat_lt, gt_iff_lt]
        split
        · rfl
        · split <;> rfl
      · rw [domesdayref10_Less.l0, if_pos (by omega), domesdayref10_Less.j1, if_neg (by simp; omega), if_neg (by omega), if_pos (by omega), ea, List.drop_eq_nil_of_le (show (L b).length ≤ i from by rw [L_len]; omega)]; rfl
    · exact ih i (k + 2) (by omega) h2 h3 (by omega)
theorem less_eq (a b : ByteArray) (ha : a.size ≤ 1000) (hb : b.size ≤ 1000) (k : Nat) (hk : 2002 ≤ k) : domesdayref10_Less.f k a b = some (cb a b) := by
  have := less_l a b (by omega) (by omega) 1000 0 k (by omega) (by omega) (by omega) (by omega)
  rw [domesdayref10_Less.f]; exact this
theorem scmp_eq (a b : ByteArray) : strings_Compare.f a b = some (cb a b) := rfl
/-! ### numbers -/
def sg (a b : Int) : Int := if a < b then -1 else if a > b then 1 else 0
theorem sg_zero (a b : Int) : sg a b = 0 ↔ a = b := by unfold sg; split <;> (try split) <;> simp <;> omega
theorem cmpI_eq (a b : Int) : cmp_Compare_int.f a b = some (sg a b) := by
  simp only [cmp_Compare_int.f, cmp_isNaN_int.f, Option.bind_some, bne_self_eq_false, Bool.false_eq_true, if_false, sg]
  split <;> (try split) <;> rfl
theorem cmpB_eq (a b : Int) : cmp_Compare_byte.f a b = some (sg a b) := by
  simp only [cmp_Compare_byte.f, cmp_isNaN_byte.f, Option.bind_some, bne_self_eq_false, Bool.false_eq_true, if_false, sg]
  split <;> (try split) <;> rfl
theorem cmpL_eq (a b : Int) : cmp_Compare_int64.f a b = some (sg a b) := by
  simp only [cmp_Compare_int64.f, cmp_isNaN_int64.f, Option.bind_some, bne_self_eq_false, Bool.false_eq_true, if_false, sg]
  split <;> (try split) <;> rfl
theorem num_eq (a b : Int) : domesdayref10_numbers.f a b = some (sg b a) := by
  unfold domesdayref10_numbers.f sg
  simp only [gt_iff_lt]
  split <;> (try split) <;> rfl
theorem or_eq (c d : Int) (k : Nat) (hk : 3 ≤ k) : cmp_Or_int.f k [c, d] = some (if c = 0 then d else c) := by
  obtain ⟨k, rfl⟩ : ∃ j, k = j + 3 := ⟨k - 3, by omega⟩
  have w1 : wrap64 (0 + 1) = 1 := wrap_id 1 (by decide) (by decide)
  have w2 : wrap64 (1 + 1) = 2 := wrap_id 2 (by decide) (by decide)
  simp only [cmp_Or_int.f, cmp_Or_int.l0, List.length_cons, List.length_nil, w1, w2, rd]
  by_cases g : c = 0 <;> by_cases g' : d = 0 <;> simp [g, g']

/-! ### tokens -/
def dig (u : UInt8) : Bool := decide (48 ≤ u.toNat) && decide (u.toNat ≤ 57)
def hdn (l : List UInt8) : List UInt8 := (l.takeWhile dig).dropWhile (· == 48)
def run (l : List UInt8) : Nat := (l.takeWhile dig).length
theorem run_le : ∀ l : List UInt8, run l ≤ l.length
  | [] => Nat.le_refl _
  | c :: cs => by
    unfold run
    rw [List.takeWhile_cons]
    have := run_le cs
    unfold run at this
    split <;> simp <;> omega
theorem run_cons (c : UInt8) (cs : List UInt8) : run (c :: cs) = if dig c = true then run cs + 1 else 0 := by
  unfold run
  rw [List.takeWhile_cons]
  split <;> simp
theorem take_run : ∀ l : List UInt8, l.take (run l) = l.takeWhile dig
  | [] => rfl
  | c :: cs => by
    rw [run_cons, List.takeWhile_cons]
    split
    · rw [List.take_succ_cons, take_run cs]
    · rfl
theorem digit_eq (c : UInt8) : order_digit.f (c.toNat : Int) = some (dig c) := by
  unfold order_digit.f dig
  by_cases g : (c.toNat : Int) ≥ 48
  · rw [if_pos g]; simp [show 48 ≤ c.toNat from by omega]
    try omega
  · rw [if_neg g]; simp [show ¬ 48 ≤ c.toNat from by omega]
    try omega
theorem trim_eq (s : ByteArray) : strings_TrimLeft.f s ⟨#[48]⟩ = some ⟨((L s).dropWhile (· == 48)).toArray⟩ := by
  unfold strings_TrimLeft.f; rw [if_pos rfl]; rfl
/-- What is read behind i: as many bytes as the run is long. -/
theorem next_l (s : ByteArray) (hs : s.size ≤ 300) : ∀ m i k : Nat, s.size - i ≤ m → i ≤ s.size → m < k →
    order_next.l0 k s (i : Int) = some (true, ⟨(((L s).take (i + run ((L s).drop i))).dropWhile (· == 48)).toArray⟩, 0, s.extract (i + run ((L s).drop i)) s.size) := by
  intro m
  have stop : ∀ i : Nat, i ≤ s.size → (if 0 ≤ (i : Int) then if (i : Int) ≤ (s.size : Int) then (strings_TrimLeft.f (s.extract 0 (i : Int).toNat) (⟨#[48]⟩ : ByteArray)).bind fun t106 => (some (true, t106, (0 : Int), s.extract (i : Int).toNat s.size)) else none else none) = some (true, (⟨(((L s).take i).dropWhile (· == 48)).toArray⟩ : ByteArray), (0 : Int), s.extract i s.size) := by
    intro i hi
    rw [if_pos (by omega), if_pos (by omega), trim_eq, L_extract]
    simp
  induction m with
  | zero =>
    intro i k h1 h2 hk
    obtain ⟨k, rfl⟩ : ∃ j, k = j + 1 := ⟨k - 1, by omega⟩
    obtain rfl : i = s.size := by omega
    rw [order_next.l0, if_neg (by omega), stop _ (by omega), List.drop_eq_nil_of_le (show (L s).length ≤ s.size from by rw [L_len]; omega)]
    rfl
  | succ m ih =>
    intro i k h1 h2 hk
    obtain ⟨k, rfl⟩ : ∃ j, k = j + 1 := ⟨k - 1, by omega⟩
    by_cases g : i < s.size
    · have e := List.drop_eq_getElem_cons (show i < (L s).length from by rw [L_len]; exact g)
      rw [order_next.l0, if_pos (by omega), if_pos (by omega), bt_get s i (by rw [L_len]; exact g), digit_eq, Option.bind_some, e, run_cons]
      by_cases gd : dig (L s)[i] = true
      · rw [if_pos gd, if_pos gd, wrap_id _ (by omega) (by omega), show ((i : Int) + 1) = ((i + 1 : Nat) : Int) from by omega, ih (i + 1) k (by omega) (by omega) (by omega),
          show i + 1 + run ((L s).drop (i + 1)) = i + (run ((L s).drop (i + 1)) + 1) from by omega]
      · rw [if_neg gd, if_neg gd]
        have := stop i h2
        rw [if_pos (by omega)] at this
        exact this
    · exact ih i (k + 1) (by omega) h2 (by omega)
def encT : List UInt8 → List UInt8
  | [] => []
  | c :: cs => if dig c = true then [33, UInt8.ofNat ((hdn (c :: cs)).length / 256), UInt8.ofNat ((hdn (c :: cs)).length % 256)] ++ hdn (c :: cs) else [126, c]
def tl : List UInt8 → List UInt8
  | [] => []
  | c :: cs => if dig c = true then (c :: cs).drop (run (c :: cs)) else cs
theorem tl_len (c : UInt8) (cs : List UInt8) : (tl (c :: cs)).length ≤ cs.length := by
  simp only [tl]
  split
  · next h => rw [run_cons, if_pos h, List.drop_succ_cons, List.length_drop]; omega
  · exact Nat.le_refl _
def toks : Nat → List UInt8 → List (List UInt8)
  | 0, _ => []
  | n + 1, [] => []
  | n + 1, c :: cs => encT (c :: cs) :: toks n (tl (c :: cs))
def B (l : List UInt8) : ByteArray := ⟨l.toArray⟩
theorem L_B (l : List UInt8) : L (B l) = l := by simp [L, B]
theorem B_L (s : ByteArray) : B (L s) = s := L_inj _ _ (L_B _)
theorem B_app (a b : List UInt8) : B a ++ B b = B (a ++ b) := by
  apply L_inj
  simp [L, B, ByteArray.data_append]

/-- A token as the program has it, of a text that isn't empty. -/
def tN : List UInt8 → Bool
  | [] => false
  | c :: _ => dig c
def tD (l : List UInt8) : ByteArray := if tN l = true then B (hdn l) else ⟨#[]⟩
def tB : List UInt8 → Int
  | [] => 0
  | c :: _ => if dig c = true then 0 else (c.toNat : Int)
theorem next_eq (l : List UInt8) (hl : l.length ≤ 300) (hn : l ≠ []) (k : Nat) (hk : 302 ≤ k) : order_next.f k (B l) = some (tN l, tD l, tB l, B (tl l)) := by
  have hsz : (B l).size = l.length := by rw [← L_len, L_B]
  obtain ⟨c, cs, rfl⟩ : ∃ c cs, l = c :: cs := by cases l with | nil => exact absurd rfl hn | cons c cs => exact ⟨c, cs, rfl⟩
  have hh := bt_head (B (c :: cs)) 0 c cs (by rw [L_B]; rfl)
  simp only [List.length_cons] at hsz hl
  have e0 : bt (B (c :: cs)) 0 = (c.toNat : Int) := hh.1
  rw [order_next.f, if_pos (by omega), e0, digit_eq, Option.bind_some]
  have hn := next_l (B (c :: cs)) (by omega) 300 0 k (by omega) (by omega) (by omega)
  rw [L_B, Nat.zero_add, List.drop_zero] at hn
  by_cases g : dig c = true
  · rw [if_pos g]
    refine (show order_next.l0 k (B (c :: cs)) 0 = _ from hn).trans ?_
    have e1 : (⟨((c :: cs).take (run (c :: cs)) |>.dropWhile (· == 48)).toArray⟩ : ByteArray) = tD (c :: cs) := by
      rw [take_run]; simp [tD, tN, g, hdn, B]
    have e2 : (B (c :: cs)).extract (run (c :: cs)) (B (c :: cs)).size = B (tl (c :: cs)) := by
      apply L_inj; rw [L_extract_end, L_B, L_B]; simp [tl, g]
    rw [e1, e2]; simp [tN, tB, g]
  · rw [if_neg g, if_pos (by omega)]
    have e2 : (B (c :: cs)).extract 1 (B (c :: cs)).size = B cs := by
      apply L_inj; rw [L_extract_end, L_B, L_B]; rfl
    rw [e2]; simp [tN, tD, tB, tl, g]
theorem hdn_len (l : List UInt8) : (hdn l).length ≤ l.length := by
  unfold hdn
  exact Nat.le_trans (List.dropWhile_suffix _).length_le (List.takeWhile_prefix _).length_le
theorem sg_u (a b : UInt8) : sg (a.toNat : Int) (b.toNat : Int) = Lib.compareBytes [a] [b] := by
  simp only [sg, Lib.compareBytes, UInt8.lt_iff_toNat_lt, gt_iff_lt, Int.ofNat_lt]
theorem cmp_cons (x : UInt8) (a b : List UInt8) : Lib.compareBytes (x :: a) (x :: b) = Lib.compareBytes a b := by
  have : ¬ x < x := by simp
  rw [Lib.compareBytes, if_neg this, if_neg this]
theorem cmp_num (m n : Nat) (hm : m < 65536) (hn : n < 65536) (d e : List UInt8) :
    Lib.compareBytes (UInt8.ofNat (m / 256) :: UInt8.ofNat (m % 256) :: d) (UInt8.ofNat (n / 256) :: UInt8.ofNat (n % 256) :: e) = if sg (m : Int) (n : Int) = 0 then Lib.compareBytes d e else sg (m : Int) (n : Int) := by
  have h1 : (UInt8.ofNat (m / 256)).toNat = m / 256 := by simp; omega
  have h2 : (UInt8.ofNat (m % 256)).toNat = m % 256 := by simp
  have h3 : (UInt8.ofNat (n / 256)).toNat = n / 256 := by simp; omega
  have h4 : (UInt8.ofNat (n % 256)).toNat = n % 256 := by simp
  simp only [Lib.compareBytes, UInt8.lt_iff_toNat_lt, h1, h2, h3, h4, sg, gt_iff_lt, Int.ofNat_lt]
  by_cases g : m < n
  · simp only [g, if_true]
    rw [if_neg (show ¬ (-1 : Int) = 0 by decide)]
    repeat' split
    all_goals first | rfl | (exfalso; omega)
  · by_cases g' : n < m
    · simp only [g, g', if_true, if_false]
      rw [if_neg (show ¬ (1 : Int) = 0 by decide)]
      repeat' split
      all_goals first | rfl | (exfalso; omega)
    · simp only [g, g', if_false, if_true]
      repeat' split
      all_goals first | rfl | (exfalso; omega)
/-- Two tokens, as the program compares them, are as their texts are. -/
theorem tok_eq (l m : List UInt8) (hl : l.length ≤ 300) (hm : m.length ≤ 300) (nl : l ≠ []) (nm : m ≠ []) (k : Nat) (hk : 10 ≤ k) :
    order_token_compare.f k (tN l) (tD l) (tB l) (tN m) (tD m) (tB m) = some (Lib.compareBytes (encT l) (encT m)) := by
  obtain ⟨k, rfl⟩ : ∃ j, k = j + 3 := ⟨k - 3, by omega⟩
  obtain ⟨c, cs, rfl⟩ : ∃ c cs, l = c :: cs := by cases l with | nil => exact absurd rfl nl | cons c cs => exact ⟨c, cs, rfl⟩
  obtain ⟨d, ds, rfl⟩ : ∃ c cs, m = c :: cs := by cases m with | nil => exact absurd rfl nm | cons c cs => exact ⟨c, cs, rfl⟩
  have szB : ∀ x : List UInt8, (B x).size = x.length := fun x => by rw [← L_len, L_B]
  have hc := hdn_len (c :: cs)
  have hd := hdn_len (d :: ds)
  by_cases g : dig c = true <;> by_cases g' : dig d = true
  · simp only [tN, tD, tB, encT, g, g', order_token_compare.f, order_token_compare.j0, order_token_compare.j1, if_true, if_false, Bool.not_true, Bool.false_eq_true, cmpI_eq, Option.bind_some, scmp_eq, szB, cb, L_B]
    rw [or_eq _ _ _ (by omega)]
    simp only [Option.bind_some, List.cons_append, List.nil_append]
    rw [cmp_cons, cmp_num _ _ (by omega) (by omega)]
  · simp [tN, tD, tB, encT, g, g', order_token_compare.f, order_token_compare.j0, Lib.compareBytes]
  · simp [tN, tD, tB, encT, g, g', order_token_compare.f, order_token_compare.j0, order_token_compare.j1, Lib.compareBytes]
  · simp only [tN, tD, tB, encT, g, g', order_token_compare.f, order_token_compare.j0, order_token_compare.j1, if_true, if_false, Bool.false_eq_true, cmpB_eq, Option.bind_some]
    rw [cmp_cons, sg_u]
def lexi : List (List UInt8) → List (List UInt8) → Int
  | [], [] => 0
  | [], _ :: _ => -1
  | _ :: _, [] => 1
  | a :: as', b :: bs => if Lib.compareBytes a b = 0 then lexi as' bs else Lib.compareBytes a b
theorem toks_nil : ∀ n, toks n [] = []
  | 0 => rfl
  | _ + 1 => rfl
theorem mn1 (n : Nat) (h : n ≠ 0) : mn (n : Int) 1 = 1 := by unfold mn; split <;> omega
theorem ver_l : ∀ n k : Nat, ∀ a b : List UInt8, a.length ≤ n → a.length ≤ 300 → b.length ≤ n → b.length ≤ 300 → 2 * n + 400 ≤ k →
    order_Version.l0 k (B a) (B b) = some (lexi (toks n a) (toks n b)) := by
  intro n
  have szB : ∀ x : List UInt8, (B x).size = x.length := fun x => by rw [← L_len, L_B]
  have tlB : ∀ x : List UInt8, (B x).toList = x := fun x => by rw [ByteArray.toList_eq]; exact L_B x
  induction n with
  | zero =>
    intro k a b h1 h2 h3 h4 hk
    obtain ⟨k, rfl⟩ : ∃ j, k = j + 2 := ⟨k - 2, by omega⟩
    obtain rfl : a = [] := List.length_eq_zero_iff.1 (by omega)
    obtain rfl : b = [] := List.length_eq_zero_iff.1 (by omega)
    rw [order_Version.l0, if_pos (tlB _), order_Version.j1, if_neg (by simp), cmpI_eq]
    simp [szB, toks, lexi, sg]
  | succ n ih =>
    intro k a b h1 h2 h3 h4 hk
    obtain ⟨k, rfl⟩ : ∃ j, k = j + 2 := ⟨k - 2, by omega⟩
    cases a with
    | nil =>
      rw [order_Version.l0, if_pos (tlB _), order_Version.j1, if_neg (by simp), cmpI_eq, szB, szB]
      cases b with
      | nil => simp [toks, lexi, sg]
      | cons d ds => rw [mn1 (d :: ds).length (by simp)]; simp [toks, lexi, sg, mn]
    | cons c cs =>
      cases b with
      | nil =>
        rw [order_Version.l0, if_neg (by rw [tlB]; simp), order_Version.j1, tlB, if_neg (by simp), cmpI_eq, szB, szB, mn1 (c :: cs).length (by simp)]
        simp [toks, lexi, sg, mn]
      | cons d ds =>
        have t1 := tl_len c cs
        have t2 := tl_len d ds
        simp only [List.length_cons] at h1 h2 h3 h4
        rw [order_Version.l0, if_neg (by rw [tlB]; simp), order_Version.j1, tlB, if_pos (by simp), next_eq (c :: cs) (by simpa using h2) (by simp) k (by omega), Option.bind_some, next_eq (d :: ds) (by simpa using h4) (by simp) k (by omega), Option.bind_some]
        simp only []
        rw [tok_eq (c :: cs) (d :: ds) (by simpa using h2) (by simpa using h4) (by simp) (by simp) k (by omega), Option.bind_some,
          ih k (tl (c :: cs)) (tl (d :: ds)) (by omega) (by omega) (by omega) (by omega) (by omega)]
        simp only [toks, lexi]
        split <;> rfl
theorem ver_eq (a b : ByteArray) (ha : a.size ≤ 300) (hb : b.size ≤ 300) (k : Nat) (hk : 1000 ≤ k) : order_Version.f k a b = some (lexi (toks 300 (L a)) (toks 300 (L b))) := by
  have := ver_l 300 k (L a) (L b) (by rw [L_len]; exact ha) (by rw [L_len]; exact ha) (by rw [L_len]; exact hb) (by rw [L_len]; exact hb) (by omega)
  rw [B_L, B_L] at this
  rw [order_Version.f, this]

/-! ### the document's tokens -/
theorem cat_eq (a b : ByteArray) (la lb : List UInt8) (ha : L a = la) (hb : L b = lb) : a ++ b = B (la ++ lb) := by
  rw [← ha, ← hb, ← B_app, B_L, B_L]
theorem L_cut (s : ByteArray) (a b : Nat) : s.extract a b = B (((L s).drop a).take (b - a)) := by
  rw [← L_extract, B_L]
def bs (l : List (List UInt8)) : List ByteArray := l.map B
/-- The end of the run. -/
theorem tk_l1 (K : Nat) (s : ByteArray) (hs : s.size ≤ 300) (out : List ByteArray) (i : Nat) (r : Option (List ByteArray)) : ∀ m j k : Nat, s.size - j ≤ m → j ≤ s.size → K ≤ k →
    (∀ k', K ≤ k' → domesdayref10_Tokens.j3 k' s out (i : Int) ((j + run ((L s).drop j) : Nat) : Int) = r) → domesdayref10_Tokens.l1 (k + m + 1) s out (i : Int) (j : Int) = r := by
  intro m
  induction m with
  | zero =>
    intro j k h1 h2 hk H
    obtain rfl : j = s.size := by omega
    rw [domesdayref10_Tokens.l1, if_neg (by omega)]
    rw [List.drop_eq_nil_of_le (show (L s).length ≤ s.size from by rw [L_len]; omega)] at H
    exact H _ hk
  | succ m ih =>
    intro j k h1 h2 hk H
    by_cases g : j < s.size
    · have e := List.drop_eq_getElem_cons (show j < (L s).length from by rw [L_len]; exact g)
      rw [domesdayref10_Tokens.l1, if_pos (by omega), if_pos (by omega), bt_get s j (by rw [L_len]; exact g)]
      rw [e, run_cons] at H
      by_cases gd : dig (L s)[j] = true
      · have gd' := gd
        simp only [dig, Bool.and_eq_true, decide_eq_true_eq] at gd'
        rw [if_pos gd] at H
        rw [if_pos (by omega), if_pos (by omega), wrap_id _ (by omega) (by omega), show ((j : Int) + 1) = ((j + 1 : Nat) : Int) from by omega]
        refine ih (j + 1) k (by omega) (by omega) hk ?_
        rw [show j + 1 + run ((L s).drop (j + 1)) = j + (run ((L s).drop (j + 1)) + 1) from by omega]
        exact H
      · have gd' := gd
        simp only [dig, Bool.and_eq_true, decide_eq_true_eq] at gd'
        rw [if_neg gd] at H
        by_cases g1 : (((L s)[j]).toNat : Int) ≥ 48
        · rw [if_pos g1, if_neg (by omega)]; exact H _ (by omega)
        · rw [if_neg g1]; exact H _ (by omega)
    · have := ih j (k + 1) (by omega) h2 (by omega) H
      rw [show k + (m + 1) + 1 = k + 1 + m + 1 from by omega]; exact this
theorem nums_B (m : Nat) (hm : m < 65536) : strOfNums [(wrap64 (Int.tdiv (wrap64 (m : Int)) 256)) % 256, (Int.tmod (wrap64 (m : Int)) 256) % 256] = B [UInt8.ofNat (m / 256), UInt8.ofNat (m % 256)] := by
  rw [wrap_id (m : Int) (by omega) (by omega), Int.tdiv_eq_ediv_of_nonneg (by omega), Int.tmod_eq_emod_of_nonneg (by omega), wrap_id _ (by omega) (by omega)]
  unfold strOfNums B
  congr 1
  congr 1
  simp only [List.map_cons, List.map_nil]
  rw [show ((m : Int) / 256 % 256).toNat = m / 256 from by omega, show ((m : Int) % 256 % 256).toNat = m % 256 from by omega]
theorem sz_B (l : List UInt8) : (B l).size = l.length := by rw [← L_len, L_B]
/-- The noughts ahead, and the token of a number. -/
theorem tk_l2 (K : Nat) (s : ByteArray) (hs : s.size ≤ 300) (out : List ByteArray) (ho : out.length ≤ 300) (j : Nat) (hj : j ≤ s.size) (r : Option (List ByteArray)) : ∀ m i k : Nat, j - i ≤ m → i ≤ j → K ≤ k →
    (∀ k', K ≤ k' → domesdayref10_Tokens.l0 k' s (out ++ [B ([33, UInt8.ofNat (((((L s).drop i).take (j - i)).dropWhile (· == 48)).length / 256), UInt8.ofNat (((((L s).drop i).take (j - i)).dropWhile (· == 48)).length % 256)] ++ (((L s).drop i).take (j - i)).dropWhile (· == 48))]) (j : Int) = r) →
    domesdayref10_Tokens.l2 (k + m + 1) s out (i : Int) (j : Int) = r := by
  intro m
  have put : ∀ (i k : Nat), i ≤ j → domesdayref10_Tokens.l0 k s (out ++ [((⟨#[33]⟩ : ByteArray) ++ (strOfNums [(wrap64 (Int.tdiv (wrap64 ((j : Int) - (i : Int))) 256)) % 256, (Int.tmod (wrap64 ((j : Int) - (i : Int))) 256) % 256])) ++ (s.extract i j)]) (j : Int)
      = domesdayref10_Tokens.l0 k s (out ++ [B ([33, UInt8.ofNat ((((L s).drop i).take (j - i)).length / 256), UInt8.ofNat ((((L s).drop i).take (j - i)).length % 256)] ++ (((L s).drop i).take (j - i)))]) (j : Int) := by
    intro i k hi
    have hl : (((L s).drop i).take (j - i)).length = j - i := by rw [List.length_take, List.length_drop, L_len]; omega
    rw [show (j : Int) - (i : Int) = ((j - i : Nat) : Int) from by omega, nums_B _ (by omega), L_cut, hl, show (⟨#[33]⟩ : ByteArray) = B [33] from rfl, B_app, B_app]
    rfl
  have sz : ∀ i : Nat, i ≤ j → 1 + (strOfNums [(wrap64 (Int.tdiv (wrap64 ((j : Int) - (i : Int))) 256)) % 256, (Int.tmod (wrap64 ((j : Int) - (i : Int))) 256) % 256]).size = 3 := by
    intro i hi
    rw [show (j : Int) - (i : Int) = ((j - i : Nat) : Int) from by omega, nums_B _ (by omega), sz_B]; rfl
  have sx : ∀ i : Nat, (s.extract i j).size ≤ 300 := by intro i; rw [L_cut, sz_B, List.length_take]; omega
  induction m with
  | zero =>
    intro i k h1 h2 hk H
    obtain rfl : i = j := by omega
    have h0 : ((L s).drop i).take (i - i) = [] := by rw [Nat.sub_self]; rfl
    rw [domesdayref10_Tokens.l2, if_neg (by omega), Option.bind_some, if_pos (by rw [sz i (by omega)]; omega), if_pos (by omega), if_pos (by omega), if_pos (by omega), if_pos (by rw [sz i (by omega)]; have := sx i; simp only [Int.toNat_natCast]; omega), if_pos (by omega)]
    simp only [Int.toNat_natCast]
    rw [put i _ (by omega)]
    rw [h0] at H ⊢
    exact H _ (by omega)
  | succ m ih =>
    intro i k h1 h2 hk H
    by_cases g : i < j
    · have e := List.drop_eq_getElem_cons (show i < (L s).length from by rw [L_len]; omega)
      have et : ((L s).drop i).take (j - i) = (L s)[i]'(by rw [L_len]; omega) :: ((L s).drop (i + 1)).take (j - (i + 1)) := by
        rw [e, show j - i = (j - (i + 1)) + 1 from by omega, List.take_succ_cons]
      rw [domesdayref10_Tokens.l2, if_pos (by omega), if_pos (by omega), if_pos (by omega), bt_get s i (by rw [L_len]; omega)]
      by_cases gz : (L s)[i]'(by rw [L_len]; omega) = 48
      · rw [if_pos (by rw [gz]; rfl), wrap_id _ (by omega) (by omega), show ((i : Int) + 1) = ((i + 1 : Nat) : Int) from by omega]
        refine ih (i + 1) k (by omega) (by omega) hk ?_
        rw [et, List.dropWhile_cons, if_pos (by rw [gz]; rfl)] at H
        exact H
      · have gz' : ¬ ((((L s)[i]'(by rw [L_len]; omega)).toNat : Int) = 48) := fun h => gz (by apply UInt8.toNat_inj.1; have : (48 : UInt8).toNat = 48 := rfl; omega)
        rw [if_neg gz', Option.bind_some, if_pos (by rw [sz i (by omega)]; omega), if_pos (by omega), if_pos (by omega), if_pos (by rw [sz i (by omega)]; have := sx i; simp only [Int.toNat_natCast]; omega), if_pos (by omega)]
        simp only [Int.toNat_natCast]
        rw [put i _ (by omega)]
        have en : (((L s).drop i).take (j - i)).dropWhile (· == 48) = ((L s).drop i).take (j - i) := by
          rw [et, List.dropWhile_cons, if_neg (by simpa using gz)]
        rw [en] at H
        exact H _ (by omega)
    · have := ih i (k + 1) (by omega) h2 (by omega) H
      rw [show k + (m + 1) + 1 = k + 1 + m + 1 from by omega]; exact this
theorem tk_l0 (s : ByteArray) (hs : s.size ≤ 300) : ∀ n i k : Nat, ∀ out : List ByteArray, s.size - i ≤ n → i ≤ s.size → out.length ≤ i → 300 + 700 * n ≤ k →
    domesdayref10_Tokens.l0 k s out (i : Int) = some (out ++ bs (toks n ((L s).drop i))) := by
  intro n
  induction n with
  | zero =>
    intro i k out h1 h2 ho hk
    obtain ⟨k, rfl⟩ : ∃ j, k = j + 1 := ⟨k - 1, by omega⟩
    rw [domesdayref10_Tokens.l0, if_neg (by omega)]
    simp [toks, bs]
  | succ n ih =>
    intro i k out h1 h2 ho hk
    by_cases g : i < s.size
    · have e := List.drop_eq_getElem_cons (show i < (L s).length from by rw [L_len]; exact g)
      have hr := run_le ((L s).drop i)
      rw [List.length_drop, L_len] at hr
      obtain ⟨k, rfl⟩ : ∃ j, k = j + 2 := ⟨k - 2, by omega⟩
      rw [domesdayref10_Tokens.l0, if_pos (by omega), if_pos (by omega), bt_get s i (by rw [L_len]; exact g)]
      have ebs : ∀ x y, out ++ bs (x :: y) = (out ++ [B x]) ++ bs y := by intro x y; simp [bs]
      by_cases gd : dig ((L s)[i]'(by rw [L_len]; exact g)) = true
      · have gd' := gd
        simp only [dig, Bool.and_eq_true, decide_eq_true_eq] at gd'
        rw [if_neg (by omega), domesdayref10_Tokens.j1, if_neg (by rw [decide_eq_true_eq]; omega)]
        obtain ⟨j, m, rfl, hm, hj⟩ : ∃ j m, k = j + m + 1 ∧ m = 300 ∧ 302 + (300 + 700 * n) ≤ j := ⟨k - 301, 300, by omega, rfl, by omega⟩
        refine tk_l1 (302 + (300 + 700 * n)) s hs out i _ m i j (by omega) (by omega) (by omega) ?_
        intro k' hk'
        obtain ⟨q, m', rfl, hm', hq⟩ : ∃ j m, k' = j + m + 1 + 1 ∧ m = 300 ∧ 300 + 700 * n ≤ j := ⟨k' - 302, 300, by omega, rfl, by omega⟩
        rw [domesdayref10_Tokens.j3]
        refine tk_l2 (300 + 700 * n) s hs out (by omega) (i + run ((L s).drop i)) (by omega) _ m' i q (by omega) (by omega) (by omega) ?_
        intro k2 hk2
        have hpos : 1 ≤ run ((L s).drop i) := by rw [e, run_cons, if_pos gd]; omega
        rw [ih (i + run ((L s).drop i)) k2 _ (by omega) (by omega) (by rw [List.length_append]; simp; omega) hk2]
        have e1 : ((L s).drop i).take (i + run ((L s).drop i) - i) = ((L s).drop i).takeWhile dig := by rw [Nat.add_sub_cancel_left, take_run]
        have e2 : encT ((L s).drop i) = [33, UInt8.ofNat ((hdn ((L s).drop i)).length / 256), UInt8.ofNat ((hdn ((L s).drop i)).length % 256)] ++ hdn ((L s).drop i) := by rw [e]; simp only [encT, gd, if_true]
        have e3 : tl ((L s).drop i) = (L s).drop (i + run ((L s).drop i)) := by rw [← List.drop_drop]; generalize hz : (L s).drop i = z at *; subst hz; rw [e]; simp only [tl, gd, if_true]
        have e4 : toks (n + 1) ((L s).drop i) = encT ((L s).drop i) :: toks n (tl ((L s).drop i)) := by rw [e]; rfl
        rw [e4, ebs, e3, e2, e1]
        rfl
      · have gd' := gd
        simp only [dig, Bool.and_eq_true, decide_eq_true_eq] at gd'
        have go : domesdayref10_Tokens.j1 (k + 1) s out (i : Int) true = some (out ++ bs (toks (n + 1) ((L s).drop i))) := by
          rw [domesdayref10_Tokens.j1, if_pos rfl, if_pos (by omega), wrap_id _ (by omega) (by omega), if_pos (by omega), if_pos (by omega)]
          rw [show ((i : Int) + 1) = ((i + 1 : Nat) : Int) from by omega]
          simp only [Int.toNat_natCast]
          have ex : s.extract i (i + 1) = B [(L s)[i]'(by rw [L_len]; exact g)] := by rw [L_cut, e, Nat.add_sub_cancel_left]; rfl
          rw [ex, sz_B, if_pos (by simp), if_pos (by omega), show (⟨#[126]⟩ : ByteArray) = B [126] from rfl, B_app,
            ih (i + 1) k _ (by omega) (by omega) (by rw [List.length_append]; simp; omega) (by omega)]
          rw [e]
          show _ = some (out ++ bs (encT _ :: toks n (tl _)))
          rw [ebs]
          simp only [encT, tl, gd, if_false, Bool.false_eq_true]
          rfl
        by_cases g1 : (((L s)[i]'(by rw [L_len]; exact g)).toNat : Int) < 48
        · rw [if_pos g1]; exact go
        · rw [if_neg g1, show decide ((((L s)[i]'(by rw [L_len]; exact g)).toNat : Int) > 57) = true from by rw [decide_eq_true_eq]; omega]; exact go
    · exact (ih i k out (by omega) h2 ho (by omega)).trans (by rw [List.drop_eq_nil_of_le (show (L s).length ≤ i from by rw [L_len]; omega), toks_nil, toks_nil])
theorem tokens_eq (s : ByteArray) (hs : s.size ≤ 300) (k : Nat) (hk : 300 + 700 * 300 ≤ k) : domesdayref10_Tokens.f k s = some (bs (toks 300 (L s))) := by
  have := tk_l0 s hs 300 0 k [] (by omega) (by omega) (by simp) hk
  rw [domesdayref10_Tokens.f]; exact this
theorem toks_small : ∀ n l x, l.length ≤ 300 → x ∈ toks n l → x.length ≤ 1000
  | 0, _, _, _, h => by simp [toks] at h
  | n + 1, [], _, _, h => by simp [toks] at h
  | n + 1, c :: cs, x, hl, h => by
    rw [toks, List.mem_cons] at h
    have t1 := tl_len c cs
    have t2 := hdn_len (c :: cs)
    rcases h with rfl | h
    · simp only [encT]
      split <;> simp only [List.length_cons, List.length_append, List.length_nil] at * <;> omega
    · exact toks_small n (tl (c :: cs)) x (by simp only [List.length_cons] at hl; omega) h
theorem rver_l (x y : List (List UInt8)) (hx : ∀ a ∈ x, a.length ≤ 1000) (hy : ∀ a ∈ y, a.length ≤ 1000) (lx : x.length ≤ 100000) (ly : y.length ≤ 100000) : ∀ m i k : Nat, x.length - i ≤ m → i ≤ x.length → i ≤ y.length → 3000 + 2 * m ≤ k →
    domesdayref10_Version.l0 k (bs x) (bs y) (i : Int) = some (lexi (x.drop i) (y.drop i)) := by
  intro m
  have lb : ∀ z : List (List UInt8), (bs z).length = z.length := fun z => by simp [bs]
  have rdb : ∀ (z : List (List UInt8)) (i : Nat) (h : i < z.length), rdOf ByteArray.empty (bs z) (i : Int) = B (z[i]'h) := by
    intro z i h
    unfold rdOf bs
    rw [Int.toNat_natCast, List.getD_eq_getElem?_getD, List.getElem?_map, List.getElem?_eq_getElem h]; rfl
  induction m with
  | zero =>
    intro i k h1 h2 h3 hk
    obtain ⟨k, rfl⟩ : ∃ j, k = j + 2 := ⟨k - 2, by omega⟩
    rw [domesdayref10_Version.l0, lb, if_neg (by omega), domesdayref10_Version.j1, if_neg (by simp), lb, lb, List.drop_eq_nil_of_le (show x.length ≤ i from by omega)]
    by_cases g : i < y.length
    · rw [if_pos (by omega), List.drop_eq_getElem_cons g]; rfl
    · rw [if_neg (by omega), if_neg (by omega), List.drop_eq_nil_of_le (show y.length ≤ i from by omega)]; rfl
  | succ m ih =>
    intro i k h1 h2 h3 hk
    by_cases gx : i < x.length
    · obtain ⟨k, rfl⟩ : ∃ j, k = j + 2 := ⟨k - 2, by omega⟩
      rw [domesdayref10_Version.l0, lb, if_pos (by omega), lb, List.drop_eq_getElem_cons gx]
      by_cases gy : i < y.length
      · rw [domesdayref10_Version.j1, if_pos (by rw [decide_eq_true_eq]; omega), lb, lb, if_pos (by omega), if_pos (by omega), if_pos (by omega), rdb x i gx, rdb y i gy,
          less_eq _ _ (by rw [sz_B]; exact hx _ (List.getElem_mem gx)) (by rw [sz_B]; exact hy _ (List.getElem_mem gy)) k (by omega), Option.bind_some, wrap_id _ (by omega) (by omega),
          show ((i : Int) + 1) = ((i + 1 : Nat) : Int) from by omega, ih (i + 1) k (by omega) (by omega) (by omega) (by omega), List.drop_eq_getElem_cons gy, lexi]
        simp only [cb, L_B]
        split <;> rfl
      · rw [domesdayref10_Version.j1, if_neg (by rw [decide_eq_true_eq]; omega), lb, lb, if_neg (by omega), if_pos (by omega), List.drop_eq_nil_of_le (show y.length ≤ i from by omega)]; rfl
    · exact ih i k (by omega) h2 h3 (by omega)
theorem toks_len : ∀ n l, (toks n l).length ≤ n
  | 0, _ => by simp [toks]
  | n + 1, [] => by simp [toks]
  | n + 1, c :: cs => by rw [toks, List.length_cons]; have := toks_len n (tl (c :: cs)); omega
theorem rver_eq (a b : ByteArray) (ha : a.size ≤ 300) (hb : b.size ≤ 300) (k : Nat) (hk : 300000 ≤ k) : domesdayref10_Version.f k a b = some (lexi (toks 300 (L a)) (toks 300 (L b))) := by
  have l1 := toks_len 300 (L a)
  have l2 := toks_len 300 (L b)
  rw [domesdayref10_Version.f, tokens_eq a ha k (by omega), Option.bind_some, tokens_eq b hb k (by omega), Option.bind_some]
  have := rver_l _ _ (fun x hx => toks_small 300 (L a) x (by rw [L_len]; exact ha) hx) (fun x hx => toks_small 300 (L b) x (by rw [L_len]; exact hb) hx) (by omega) (by omega) 300 0 k (by omega) (by omega) (by omega) (by omega)
  exact this
theorem lexi_self : ∀ x, lexi x x = 0
  | [] => rfl
  | a :: x => by rw [lexi, if_pos (cmpB_self a), lexi_self x]
/-! ### keys -/
def first (o : Int) (a b : ByteArray) (s t u v : Int) : Int := if o = 1 then sg u s else if o = 2 then sg v t else if o = 3 then cb (extS a) (extS b) else if o = 4 then lexi (toks 300 (L a)) (toks 300 (L b)) else 0
def keyC (o : Int) (a b : ByteArray) (s t u v : Int) : Int := if first o a b s t u v = 0 then cb a b else first o a b s t u v
theorem extS_size (s : ByteArray) (h : s.size ≤ 300) : (extS s).size ≤ 1000 := by
  unfold extS
  split
  · rw [L_cut, sz_B, List.length_take, List.length_drop, L_len]; omega
  · show 0 ≤ 1000; omega
theorem comp_eq (o : Int) (a b : ByteArray) (ha : a.size ≤ 300) (hb : b.size ≤ 300) (s t u v : Int) (d e : Bool) (k : Nat) (hk : 300000 ≤ k) : order_Compare.f k o a s t d b u v e = some (keyC o a b s t u v) := by
  unfold order_Compare.f keyC first
  rw [cmpL_eq, cmpL_eq, ext_eq a ha k (by omega), ext_eq b hb k (by omega), ver_eq a b ha hb k (by omega)]
  simp only [Option.bind_some, scmp_eq, or_eq _ _ k (show 3 ≤ k from by omega)]
  by_cases g1 : o = 1
  · simp only [g1, if_true]
  · by_cases g2 : o = 2
    · simp only [g2, if_true]; rfl
    · by_cases g3 : o = 3
      · simp only [g3, if_true]; rfl
      · by_cases g4 : o = 4
        · simp only [g4, if_true]; rfl
        · simp only [g1, g2, g3, g4, if_false]
theorem rcomp_eq (o : Int) (a b : ByteArray) (ha : a.size ≤ 300) (hb : b.size ≤ 300) (s t u v : Int) (d e : Bool) (k : Nat) (hk : 300000 ≤ k) : domesdayref10_Compare.f k o a s t d b u v e = some (keyC o a b s t u v) := by
  unfold domesdayref10_Compare.f keyC first
  rw [num_eq, num_eq, rext_eq a ha k (by omega), rext_eq b hb k (by omega), rver_eq a b ha hb k (by omega), less_eq a b (by omega) (by omega) k (by omega)]
  simp only [Option.bind_some, less_eq _ _ (extS_size a ha) (extS_size b hb) k (show 2002 ≤ k from by omega)]
  by_cases g1 : o = 1
  · simp only [g1, if_true]; split <;> rfl
  · by_cases g2 : o = 2
    · simp only [g2, Int.reduceEq, if_true, if_false]; split <;> rfl
    · by_cases g3 : o = 3
      · simp only [g3, Int.reduceEq, if_true, if_false]; split <;> rfl
      · by_cases g4 : o = 4
        · simp only [g4, Int.reduceEq, if_true, if_false]; split <;> rfl
        · simp only [g1, g2, g3, g4, if_false, if_true]
/-! ### the law -/
theorem awake_eq (k : Nat) (hk : 300000 ≤ k) : domesdaylaw10_awake.f k = some true := by
  have e1 : lexi (toks 300 (L ⟨#[101, 57]⟩)) (toks 300 (L ⟨#[101, 49, 48]⟩)) = -1 := by decide +kernel
  have e2 : extS ⟨#[97, 46, 98, 46, 99]⟩ = ⟨#[46, 99]⟩ := by decide +kernel
  rw [domesdaylaw10_awake.f, ver_eq _ _ (by decide) (by decide) k (by omega), Option.bind_some, e1, if_pos rfl, ext_eq _ (by decide) k (by omega), Option.bind_some, e2]
  decide +kernel
theorem first_self (o : Int) (a : ByteArray) (s t u v : Int) (h1 : o = 1 → s = u) (h2 : o = 2 → t = v) : first o a a s t u v = 0 := by
  unfold first
  split
  · next h => exact (sg_zero _ _).2 (h1 h).symm
  · split
    · next h => exact (sg_zero _ _).2 (h2 h).symm
    · split
      · exact (cb_zero _ _).2 rfl
      · split
        · exact lexi_self _
        · rfl
theorem key_zero (o : Int) (a b : ByteArray) (s t u v : Int) : keyC o a b s t u v = 0 ↔ a = b ∧ (o = 1 → s = u) ∧ (o = 2 → t = v) := by
  unfold keyC
  constructor
  · intro h
    split at h
    · next hf =>
      have e := (cb_zero _ _).1 h
      refine ⟨e, fun h1 => ?_, fun h2 => ?_⟩
      · unfold first at hf; rw [if_pos h1] at hf; exact ((sg_zero _ _).1 hf).symm
      · unfold first at hf; rw [if_neg (by omega), if_pos h2] at hf; exact ((sg_zero _ _).1 hf).symm
    · next hf => exact absurd h hf
  · intro ⟨h1, h2, h3⟩
    subst h1
    rw [if_pos (first_self o a s t u v h2 h3)]
    exact (cb_zero _ _).2 rfl
/-! ### what an order is -/
structure Good {α : Type} (c : α → α → Int) : Prop where
  anti : ∀ a b, c b a = -c a b
  tr : ∀ a b d, c a b ≤ 0 → c b d ≤ 0 → c a d ≤ 0
  small : ∀ a b, -1 ≤ c a b ∧ c a b ≤ 1
theorem Good.self {α : Type} {c : α → α → Int} (g : Good c) (a : α) : c a a = 0 := by have := g.anti a a; omega
theorem Good.step {α : Type} {c : α → α → Int} (g : Good c) (x y z : α) (p q r : Int) (h : p ≤ 0 → q ≤ 0 → r ≤ 0) (h1 : (if c x y = 0 then p else c x y) ≤ 0) (h2 : (if c y z = 0 then q else c y z) ≤ 0) :
    (if c x z = 0 then r else c x z) ≤ 0 := by
  have a1 := g.anti x y
  have a2 := g.anti y z
  have a3 := g.anti x z
  have t1 := g.tr x y z
  have t2 := g.tr z x y
  have t3 := g.tr y z x
  have t4 := g.tr z y x
  have hxy : c x y ≤ 0 := by split at h1 <;> omega
  have hyz : c y z ≤ 0 := by split at h2 <;> omega
  have hxz := t1 hxy hyz
  split
  · next e =>
    have e1 : c x y = 0 := by have := t3 hyz (by omega); omega
    have e2 : c y z = 0 := by have := t2 (by omega) hxy; omega
    rw [if_pos e1] at h1
    rw [if_pos e2] at h2
    exact h h1 h2
  · exact hxz
theorem Good.lex {α : Type} {c d : α → α → Int} (g : Good c) (g' : Good d) : Good (fun a b => if c a b = 0 then d a b else c a b) := by
  refine ⟨fun a b => ?_, fun x y z h1 h2 => g.step x y z _ _ _ (g'.tr x y z) h1 h2, fun a b => ?_⟩
  · have h1 := g.anti a b
    have h2 := g'.anti a b
    by_cases e : c a b = 0
    · simp only [e, if_true, show c b a = 0 from by omega]; exact h2
    · simp only [e, if_false, show ¬ c b a = 0 from by omega]; exact h1
  · have h1 := g.small a b
    have h2 := g'.small a b
    by_cases e : c a b = 0
    · simp only [e, if_true]; exact h2
    · simp only [e, if_false]; exact h1
theorem Good.map {α β : Type} {c : β → β → Int} (g : Good c) (f : α → β) : Good (fun a b => c (f a) (f b)) := ⟨fun a b => g.anti _ _, fun a b d => g.tr _ _ _, fun a b => g.small _ _⟩
theorem Good.flip {α : Type} {c : α → α → Int} (g : Good c) : Good (fun a b => c b a) := ⟨fun a b => g.anti _ _, fun a b d h1 h2 => g.tr _ _ _ h2 h1, fun a b => g.small _ _⟩
theorem good_zero {α : Type} : Good (fun (_ _ : α) => (0 : Int)) := ⟨fun _ _ => rfl, fun _ _ _ h _ => h, fun _ _ => by omega⟩
theorem good_sg : Good sg := by
  refine ⟨fun a b => ?_, fun a b d h1 h2 => ?_, fun a b => ?_⟩
  · unfold sg; split <;> split <;> (try split) <;> (try split) <;> omega
  · unfold sg at *
    by_cases e : a < d
    · rw [if_pos e]; omega
    · rw [if_neg e]
      by_cases e' : a > d
      · exfalso
        by_cases x1 : a < b
        · by_cases x2 : b < d
          · omega
          · rw [if_neg x2, if_pos (by omega)] at h2; omega
        · by_cases x1' : a > b
          · rw [if_neg x1, if_pos x1'] at h1; omega
          · by_cases x2 : b < d
            · omega
            · rw [if_neg x2, if_pos (by omega)] at h2; omega
      · rw [if_neg e']; omega
  · unfold sg; split <;> (try split) <;> omega
def lexL {β : Type} (c : β → β → Int) : List β → List β → Int
  | [], [] => 0
  | [], _ :: _ => -1
  | _ :: _, [] => 1
  | a :: x, b :: y => if c a b = 0 then lexL c x y else c a b
theorem good_lexL {β : Type} {c : β → β → Int} (g : Good c) : Good (lexL c) := by
  refine ⟨?_, ?_, ?_⟩
  · intro a
    induction a with
    | nil => intro b; cases b <;> rfl
    | cons x a ih =>
      intro b
      cases b with
      | nil => rfl
      | cons y b =>
        have h1 := g.anti x y
        simp only [lexL]
        by_cases e : c x y = 0
        · rw [if_pos e, if_pos (by omega)]; exact ih b
        · rw [if_neg e, if_neg (by omega)]; exact h1
  · intro a
    induction a with
    | nil => intro b d _ _; cases d <;> simp [lexL]
    | cons x a ih =>
      intro b d h1 h2
      cases b with
      | nil => simp [lexL] at h1
      | cons y b =>
        cases d with
        | nil => simp [lexL] at h2
        | cons z d =>
          simp only [lexL] at h1 h2 ⊢
          exact g.step x y z _ _ _ (ih b d) h1 h2
  · intro a
    induction a with
    | nil => intro b; cases b <;> simp [lexL]
    | cons x a ih =>
      intro b
      cases b with
      | nil => simp [lexL]
      | cons y b =>
        simp only [lexL]
        have := g.small x y
        split
        · exact ih b
        · exact this
theorem cmp_lexL : ∀ a b : List UInt8, Lib.compareBytes a b = lexL (fun u v : UInt8 => sg (u.toNat : Int) (v.toNat : Int)) a b
  | [], [] => rfl
  | [], _ :: _ => rfl
  | _ :: _, [] => rfl
  | a :: x, b :: y => by
    simp only [Lib.compareBytes, lexL, cmp_lexL x y, sg, UInt8.lt_iff_toNat_lt, gt_iff_lt, Int.ofNat_lt]
    by_cases e : a.toNat < b.toNat
    · simp [e]
    · by_cases e' : b.toNat < a.toNat
      · simp [e, e']
      · simp [e, e']
theorem good_cmp : Good Lib.compareBytes := by
  have : Lib.compareBytes = lexL (fun u v : UInt8 => sg (u.toNat : Int) (v.toNat : Int)) := by funext a b; exact cmp_lexL a b
  rw [this]
  exact good_lexL (good_sg.map _)
theorem lexi_lexL : ∀ a b, lexi a b = lexL Lib.compareBytes a b
  | [], [] => rfl
  | [], _ :: _ => rfl
  | _ :: _, [] => rfl
  | a :: x, b :: y => by simp only [lexi, lexL, lexi_lexL x y]
theorem good_lexi : Good lexi := by
  have : lexi = lexL Lib.compareBytes := by funext a b; exact lexi_lexL a b
  rw [this]
  exact good_lexL good_cmp
def fstC (o : Int) (x y : ByteArray × Int × Int) : Int := first o x.1 y.1 x.2.1 x.2.2 y.2.1 y.2.2
theorem good_first (o : Int) : Good (fstC o) := by
  by_cases g1 : o = 1
  · have : fstC o = fun x y => sg y.2.1 x.2.1 := by funext x y; simp only [fstC, first, g1, if_true]
    rw [this]; exact (good_sg.map (fun x : ByteArray × Int × Int => x.2.1)).flip
  · by_cases g2 : o = 2
    · have : fstC o = fun x y => sg y.2.2 x.2.2 := by funext x y; simp only [fstC, first, g2, Int.reduceEq, if_true, if_false]
      rw [this]; exact (good_sg.map (fun x : ByteArray × Int × Int => x.2.2)).flip
    · by_cases g3 : o = 3
      · have : fstC o = fun x y => Lib.compareBytes (L (extS x.1)) (L (extS y.1)) := by funext x y; simp only [fstC, first, g3, Int.reduceEq, if_true, if_false]
        rw [this]; exact good_cmp.map (fun x : ByteArray × Int × Int => L (extS x.1))
      · by_cases g4 : o = 4
        · have : fstC o = fun x y => lexi (toks 300 (L x.1)) (toks 300 (L y.1)) := by funext x y; simp only [fstC, first, g4, Int.reduceEq, if_true, if_false]
          rw [this]; exact good_lexi.map (fun x : ByteArray × Int × Int => toks 300 (L x.1))
        · have : fstC o = fun _ _ => 0 := by funext x y; simp only [fstC, first, g1, g2, g3, g4, if_false]
          rw [this]; exact good_zero
theorem good_key (o : Int) : Good (fun x y : ByteArray × Int × Int => keyC o x.1 y.1 x.2.1 x.2.2 y.2.1 y.2.2) := (good_first o).lex (good_cmp.map (fun x : ByteArray × Int × Int => L x.1))
end Go.Proofs.YtnlbjefhbeocmaaDoor.Pure
