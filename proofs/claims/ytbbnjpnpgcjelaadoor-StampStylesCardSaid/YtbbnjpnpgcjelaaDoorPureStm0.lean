/- stamp's plain laws: numbers in digits, two ways alike. -/
import Derived.Test.YtbbnjpnpgcjelaaDoorQStmO
import Derived.Test.YtbbnjpnpgcjelaaDoorQDir1
import Derived.Test.YtbbnjpnpgcjelaaDoorDateEv
import Derived.Test.YtbbnjpnpgcjelaaDoorDateEvR
import Derived.Lib.ItoaLen
import Derived.OpenShut
namespace Go.Proofs.YtbbnjpnpgcjelaaDoor.Pure
open Go.RowKit Go.Lib Go.Proofs.YtbbnjpnpgcjelaaDoor.QStm Go.Proofs.YtbbnjpnpgcjelaaDoor.DateMath Go.Proofs.YtbbnjpnpgcjelaaDoor.DateEv Go.Proofs.YtbbnjpnpgcjelaaDoorW.PrintWords Go.Proofs.YtbbnjpnpgcjelaaDoorW.PrintLast Go.Proofs.YtbbnjpnpgcjelaaDoorW.PrintMore
set_option linter.unusedVariables false
set_option linter.unusedSimpArgs false

abbrev L (s : ByteArray) : List UInt8 := s.data.toList
def B (l : List UInt8) : ByteArray := ⟨l.toArray⟩
theorem L_len (s : ByteArray) : (L s).length = s.size := by rw [Array.length_toList]; rfl
theorem L_inj {s t : ByteArray} (h : L s = L t) : s = t := by
  cases s; cases t; congr 1; exact Array.toList_inj.1 h
theorem L_B (l : List UInt8) : L (B l) = l := by simp [L, B]
theorem B_L (s : ByteArray) : B (L s) = s := L_inj (L_B _)
theorem B_app (a b : List UInt8) : B a ++ B b = B (a ++ b) := by apply L_inj; simp [L, B, ByteArray.data_append]
theorem L_app (a b : ByteArray) : L (a ++ b) = L a ++ L b := by simp [L, ByteArray.data_append]
theorem B_size (l : List UInt8) : (B l).size = l.length := by simp [B, ByteArray.size]
/-- A number in decimal digits. -/
def dec (n : Int) : ByteArray := B (itoa n)
theorem dec_size (n : Int) (h0 : -9223372036854775808 ≤ n) (h1 : n ≤ 9223372036854775807) : (dec n).size ≤ 21 := by
  unfold dec; rw [B_size]; exact itoa_length_le n h0 h1
theorem digits_Dec_eq (n : Int) (h0 : -9223372036854775808 ≤ n) (h1 : n ≤ 9223372036854775807) : digits_Dec.f n = some (dec n) := by
  unfold digits_Dec.f strconv_FormatInt.f
  rw [if_pos ⟨h0, h1, rfl⟩]
  rfl
/-! ### the document's digits -/
theorem digit_of (d : Nat) (h : d < 10) : L ((⟨#[48, 49, 50, 51, 52, 53, 54, 55, 56, 57, 97, 98, 99, 100, 101, 102]⟩ : ByteArray).extract d (d + 1)) = [UInt8.ofNat (48 + d)] := by
  have : ∀ d : Fin 10, L ((⟨#[48, 49, 50, 51, 52, 53, 54, 55, 56, 57, 97, 98, 99, 100, 101, 102]⟩ : ByteArray).extract d.val (d.val + 1)) = [UInt8.ofNat (48 + d.val)] := by decide +kernel
  exact this ⟨d, h⟩
theorem digits_l (m : Nat) : ∀ (u i : Nat) (acc : List UInt8), u ≤ 18446744073709551615 → u < 10 ^ m → (1 ≤ u ∨ i = 0) → i + m ≤ 60 → acc.length ≤ 100 → acc.length + m ≤ 100 →
    Ev (fun k => domesdayref01_Digits.l0 k (u : Int) 10 (B acc) (i : Int)) (B (decDigits u ++ acc)) := by
  induction m with
  | zero =>
    intro u i acc _ hu h1 hi ha hb
    have hu0 : u = 0 := by omega
    have hi0 : i = 0 := by omega
    subst hu0; subst hi0
    refine Ev.step (f := fun k => domesdayref01_Digits.j1 k 0 10 (B acc) 0 true) (fun k => by simp [domesdayref01_Digits.l0]) ?_
    refine Ev.step (f := fun k => domesdayref01_Digits.l0 k 0 10 (B ([48] ++ acc)) 1) (fun k => ?_) ?_
    · rw [domesdayref01_Digits.j1, if_pos rfl, if_neg (by decide), if_pos (by decide), if_pos (by decide), if_pos (by decide)]
      have e := digit_of 0 (by omega)
      have e2 : (⟨#[48, 49, 50, 51, 52, 53, 54, 55, 56, 57, 97, 98, 99, 100, 101, 102]⟩ : ByteArray).extract ((Int.tmod 0 10) : Int).toNat ((IntKind.u64.wrap ((Int.tmod 0 10) + 1)) : Int).toNat = B [48] := by decide +kernel
      rw [e2, if_pos (by rw [B_size, B_size]; simp; omega), B_app, show IntKind.u64.wrap (Int.tdiv 0 10) = 0 from by decide, show wrap64 (0 + 1) = 1 from by decide +kernel]
    · refine Ev.step (f := fun k => domesdayref01_Digits.j1 k 0 10 (B ([48] ++ acc)) 1 false) (fun k => by simp [domesdayref01_Digits.l0]) ?_
      refine Ev.step (f := fun _ => some (B ([48] ++ acc))) (fun k => by rw [domesdayref01_Digits.j1, if_neg (by decide)]) ?_
      rw [show decDigits 0 = [48] from by rw [decDigits_one (by omega)]; rfl]
      exact Ev.now _
  | succ m ih =>
    intro u i acc hmax hu h1 hi ha hb
    have hgo : ∀ k, domesdayref01_Digits.l0 (k + 1) (u : Int) 10 (B acc) (i : Int) = domesdayref01_Digits.j1 k (u : Int) 10 (B acc) (i : Int) true := by
      intro k
      rw [domesdayref01_Digits.l0, if_pos (by omega)]
      by_cases h0 : i = 0
      · rw [if_pos (by omega)]
      · rw [if_neg (by omega), decide_eq_true (by omega)]
    refine Ev.step (f := fun k => domesdayref01_Digits.j1 k (u : Int) 10 (B acc) (i : Int) true) hgo ?_
    have hm : Int.tmod (u : Int) 10 = ((u % 10 : Nat) : Int) := by rw [Int.tmod_eq_emod_of_nonneg (by omega)]; omega
    have hd : Int.tdiv (u : Int) 10 = ((u / 10 : Nat) : Int) := by rw [Int.tdiv_eq_ediv_of_nonneg (by omega)]; omega
    have w1 : IntKind.u64.wrap (((u % 10 : Nat) : Int) + 1) = ((u % 10 + 1 : Nat) : Int) := by
      unfold IntKind.wrap; simp [IntKind.signed, IntKind.bits]; omega
    have w2 : IntKind.u64.wrap ((u / 10 : Nat) : Int) = ((u / 10 : Nat) : Int) := by
      unfold IntKind.wrap; simp [IntKind.signed, IntKind.bits]; omega
    have e2 := digit_of (u % 10) (by omega)
    have e3 : (⟨#[48, 49, 50, 51, 52, 53, 54, 55, 56, 57, 97, 98, 99, 100, 101, 102]⟩ : ByteArray).extract (u % 10) (u % 10 + 1) = B [UInt8.ofNat (48 + u % 10)] := L_inj (by rw [e2, L_B])
    refine Ev.step (f := fun k => domesdayref01_Digits.l0 k ((u / 10 : Nat) : Int) 10 (B ([UInt8.ofNat (48 + u % 10)] ++ acc)) ((i + 1 : Nat) : Int)) (fun k => ?_) ?_
    · rw [domesdayref01_Digits.j1, if_pos rfl, if_neg (by decide), hm, hd, w1, w2, if_pos (by omega), if_pos (by omega), if_pos (by omega), Int.toNat_natCast, Int.toNat_natCast, e3, if_pos (by rw [B_size, B_size]; simp; omega), B_app, wrap_id _ (by omega) (by omega)]
      rfl
    · by_cases h10 : u < 10
      · have hz : u / 10 = 0 := by omega
        rw [hz, decDigits_one h10, show u % 10 = u from by omega]
        refine Ev.step (f := fun k => domesdayref01_Digits.j1 k 0 10 (B ([UInt8.ofNat (48 + u)] ++ acc)) ((i + 1 : Nat) : Int) false) (fun k => ?_) ?_
        · rw [domesdayref01_Digits.l0, if_pos (by omega), if_neg (by omega)]
          rfl
        · exact Ev.step (f := fun _ => some (B ([UInt8.ofNat (48 + u)] ++ acc))) (fun k => by rw [domesdayref01_Digits.j1, if_neg (by decide)]) (Ev.now _)
      · rw [decDigits, dif_neg h10, List.append_assoc]
        exact ih (u / 10) (i + 1) _ (by omega) (by rw [Nat.pow_succ] at hu; omega) (.inl (by omega)) (by omega) (by simp; omega) (by simp; omega)
theorem refDigits (u : Nat) (h : u ≤ 18446744073709551615) : Ev (fun k => domesdayref01_Digits.f k (u : Int) 10) (B (decDigits u)) := by
  have := digits_l 20 u 0 [] h (by omega) (.inr rfl) (by omega) (by simp) (by simp)
  rw [List.append_nil] at this
  exact this
theorem refDec (n : Int) (h0 : -9223372036854775808 ≤ n) (h1 : n ≤ 9223372036854775807) : Ev (fun k => domesdayref01_Dec.f k n) (dec n) := by
  by_cases h : n ≥ 0
  · obtain ⟨u, rfl⟩ := Int.eq_ofNat_of_zero_le h
    have hw : IntKind.u64.wrap (u : Int) = (u : Int) := by
      unfold IntKind.wrap; simp [IntKind.signed, IntKind.bits]; omega
    refine Ev.congr (f := fun k => (domesdayref01_Digits.f k (u : Int) 10).bind fun t113 => (some t113)) (fun k => by unfold domesdayref01_Dec.f; rw [if_pos h, hw]) ?_
    refine Ev.bind (refDigits u (by omega)) ?_
    rw [show dec (u : Int) = B (decDigits u) from by unfold dec; rw [itoa_nonneg]]
    exact Ev.now _
  · obtain ⟨u, rfl⟩ : ∃ u : Nat, n = -(u : Int) := ⟨n.natAbs, by omega⟩
    have hw : IntKind.u64.wrap ((IntKind.u64.wrap (wrap64 (-(wrap64 (-(u : Int) + 1))))) + 1) = (u : Int) := by
      rw [wrap_id (-(u : Int) + 1) (by omega) (by omega), wrap_id _ (by omega) (by omega)]
      unfold IntKind.wrap; simp [IntKind.signed, IntKind.bits]; omega
    refine Ev.congr (f := fun k => (domesdayref01_Digits.f k (u : Int) 10).bind fun t114 => (if 1 + t114.size ≤ 9223372036854775807 then (some ((⟨#[45]⟩ : ByteArray) ++ t114)) else (none))) (fun k => by unfold domesdayref01_Dec.f; rw [if_neg h, hw]) ?_
    refine Ev.bind (f := fun _ t114 => (if 1 + t114.size ≤ 9223372036854775807 then (some ((⟨#[45]⟩ : ByteArray) ++ t114)) else (none))) (refDigits u (by omega)) ?_
    have hs := dec_size (-(u : Int)) h0 h1
    have he : dec (-(u : Int)) = B (45 :: decDigits u) := by unfold dec; rw [itoa_neg u (by omega)]
    rw [he] at hs ⊢
    rw [B_size] at hs
    simp only [List.length_cons] at hs
    rw [if_pos (by rw [B_size]; omega)]
    exact Ev.now _
/-! ### numbers in two and three digits -/
def two (n : Int) : ByteArray := strOfNums (([(wrap64 (48 + (Int.tmod (wrap64 (Int.tdiv n 10)) 10))) % 256, (wrap64 (48 + (Int.tmod n 10))) % 256] : List Int))
theorem two_eq (n : Int) : domesdayref05_two.f n = some (two n) := rfl
theorem two_size (n : Int) : (two n).size = 2 := by unfold two strOfNums; rfl
/-- The digits of a number below 1000. -/
def dd (n : Nat) : List UInt8 := if n < 10 then [UInt8.ofNat (48 + n)] else if n < 100 then [UInt8.ofNat (48 + n / 10), UInt8.ofNat (48 + n % 10)] else [UInt8.ofNat (48 + n / 100), UInt8.ofNat (48 + n / 10 % 10), UInt8.ofNat (48 + n % 10)]
theorem dd_eq (n : Nat) (h : n < 1000) : decDigits n = dd n := by
  unfold dd
  by_cases h1 : n < 10
  · rw [if_pos h1, decDigits_one h1]
  · by_cases h2 : n < 100
    · rw [if_neg h1, if_pos h2, decDigits_two h1 h2]
    · rw [if_neg h1, if_neg h2, decDigits, dif_neg h1, decDigits_two (by omega) (by omega), Nat.div_div_eq_div_mul]
      rfl
theorem repeat_one (c : UInt8) : ∀ n, repeatL [c] n = List.replicate n c
  | 0 => rfl
  | n + 1 => by rw [repeatL, repeat_one c n]; rfl
theorem pad_eq (n : Nat) (h : n < 1000) (a : Nat) (ha : a ≤ 3) (c : UInt8) : stamp_pad.f (n : Int) (a : Int) ⟨#[c]⟩ = some (B (List.replicate (a - (dd n).length) c ++ dd n)) := by
  have hl : (dd n).length ≤ 3 := by unfold dd; repeat' split <;> simp
  have hb : (dec (n : Int)).size = (dd n).length := by unfold dec; rw [B_size, itoa_nonneg, dd_eq n h]
  unfold stamp_pad.f
  rw [digits_Dec_eq _ (by omega) (by omega), Option.bind_some, hb, wrap_id _ (by omega) (by omega)]
  have hm : mx ((a : Int) - ((dd n).length : Int)) 0 = ((a - (dd n).length : Nat) : Int) := by unfold mx; split <;> omega
  rw [hm]
  unfold strings_Repeat.f
  rw [if_pos ⟨by omega, by omega, by show 1 ≤ 1000000; omega⟩, Option.bind_some, Int.toNat_natCast]
  have hr : (⟨(repeatL (⟨#[c]⟩ : ByteArray).data.toList (a - (dd n).length)).toArray⟩ : ByteArray) = B (List.replicate (a - (dd n).length) c) := by
    show B (repeatL [c] _) = _
    rw [repeat_one]
  rw [hr, if_pos (by rw [B_size, List.length_replicate]; omega)]
  unfold dec
  rw [B_app, itoa_nonneg, dd_eq n h]
theorem pad2 (n : Int) (h0 : 0 ≤ n) (h1 : n < 100) : stamp_pad.f n 2 ⟨#[48]⟩ = some (two n) := by
  obtain ⟨n, rfl⟩ := Int.eq_ofNat_of_zero_le h0
  rw [show (2 : Int) = ((2 : Nat) : Int) from rfl, pad_eq n (by omega) 2 (by omega)]
  have : ∀ n : Fin 100, List.replicate (2 - (dd n.val).length) (48 : UInt8) ++ dd n.val = L (two (n.val : Int)) := by decide +kernel
  rw [this ⟨n, by omega⟩, B_L]
/-- A day, with a blank ahead. -/
def dayE (n : Int) : ByteArray := if n < 10 then (⟨#[32]⟩ : ByteArray) ++ ((two n).extract 1 (two n).size) else two n
theorem padE (n : Int) (h0 : 0 ≤ n) (h1 : n < 100) : stamp_pad.f n 2 ⟨#[32]⟩ = some (dayE n) := by
  obtain ⟨n, rfl⟩ := Int.eq_ofNat_of_zero_le h0
  rw [show (2 : Int) = ((2 : Nat) : Int) from rfl, pad_eq n (by omega) 2 (by omega)]
  have : ∀ n : Fin 100, List.replicate (2 - (dd n.val).length) (32 : UInt8) ++ dd n.val = L (dayE (n.val : Int)) := by decide +kernel
  rw [this ⟨n, by omega⟩, B_L]
def three (n : Int) : ByteArray := strOfNums ([(wrap64 (48 + (wrap64 (Int.tdiv n 100)))) % 256] : List Int) ++ two (Int.tmod n 100)
theorem pad3 (n : Int) (h0 : 0 ≤ n) (h1 : n < 1000) : stamp_pad.f n 3 ⟨#[48]⟩ = some (three n) := by
  obtain ⟨n, rfl⟩ := Int.eq_ofNat_of_zero_le h0
  rw [show (3 : Int) = ((3 : Nat) : Int) from rfl, pad_eq n (by omega) 3 (by omega)]
  have : ∀ n : Fin 1000, List.replicate (3 - (dd n.val).length) (48 : UInt8) ++ dd n.val = L (three (n.val : Int)) := by decide +kernel
  rw [this ⟨n, by omega⟩, B_L]
theorem three_size (n : Int) : (three n).size = 3 := by unfold three; rw [ByteArray.size_append, two_size]; rfl
theorem dayE_size (n : Int) : (dayE n).size = 2 := by
  unfold dayE
  split
  · rw [ByteArray.size_append, ByteArray.size_extract, two_size]; rfl
  · exact two_size n
end Go.Proofs.YtbbnjpnpgcjelaaDoor.Pure
