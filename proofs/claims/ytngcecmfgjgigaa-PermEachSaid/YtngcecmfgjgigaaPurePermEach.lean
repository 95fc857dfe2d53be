/- P7.3: who may two things may each; the uid 0 may read and write all. No condition. -/
import Derived.Test.YtngcecmfgjgigaaQPermEachx1
import Derived.OpenShut
namespace Go.Proofs.Ytngcecmfgjgigaa.Pure
open Go.RowKit Go.Proofs.Ytngcecmfgjgigaa.QPermEach Go.Proofs.Ytngcecmfgjgigaa.Ext Go.Proofs.YtngcecmfgjgigaaW.PrintWords Go.Proofs.YtngcecmfgjgigaaW.PrintLast Go.Proofs.YtngcecmfgjgigaaW.PrintMore
set_option linter.unusedVariables false
set_option linter.unusedSimpArgs false

theorem wrap_id (x : Int) (h : -9223372036854775808 ≤ x) (h' : x ≤ 9223372036854775807) : wrap64 x = x := by unfold wrap64; omega
theorem tdiv_nn (x d : Int) (h : 0 ≤ x) : Int.tdiv x d = x / d := Int.tdiv_eq_ediv_of_nonneg h
theorem tmod_nn (x d : Int) (h : 0 ≤ x) : Int.tmod x d = x % d := Int.tmod_eq_emod_of_nonneg h
theorem mod_pos (x d : Int) (hd : 0 < d) (hd' : d ≤ 1000000) : Int.tmod (wrap64 (Int.tmod x d + d)) d = x % d := by
  have h1 := Int.lt_tmod_of_pos x hd
  have h2 := Int.tmod_lt_of_pos x hd
  rw [wrap_id _ (by omega) (by omega), tmod_nn _ _ (by omega)]
  have e := Int.tmod_eq_emod (a := x) (b := d)
  have e2 := Int.emod_nonneg x (show d ≠ 0 by omega)
  have e3 := Int.emod_lt_of_pos x hd
  have e4 : (d.natAbs : Int) = d := by omega
  by_cases g : 0 ≤ x ∨ d ∣ x
  · rw [if_pos g] at e
    rw [show Int.tmod x d + d = x % d + d * 1 from by omega, Int.add_mul_emod_self_left, Int.emod_emod_of_dvd _ (Int.dvd_refl d)]
  · rw [if_neg g, e4] at e
    rw [show Int.tmod x d + d = x % d from by omega, Int.emod_emod_of_dvd _ (Int.dvd_refl d)]
theorem wrap_small (n : Int) (h0 : 0 ≤ n) (h1 : n < 2 ^ 63) : IntKind.i64.wrap n = n := by rw [IntKind.wrap_i64]; omega
theorem and7 (x : Int) : Go.bits .and .i64 x 7 = x % 8 := by
  have hb : (BitVec.ofInt 64 x).toNat = (x % 18446744073709551616).toNat := by simp
  have h7 : (BitVec.ofInt 64 7).toNat = 7 := by decide
  show IntKind.i64.wrap (((BitVec.ofInt 64 x &&& BitVec.ofInt 64 7).toNat : Nat) : Int) = x % 8
  rw [BitVec.toNat_and, hb, h7, show (7 : Nat) = 2 ^ 3 - 1 from rfl, Nat.and_two_pow_sub_one_eq_mod, wrap_small _ (by omega) (by omega)]
  omega
theorem and_nat (a b : Nat) (ha : a < 2 ^ 63) (hb : b < 2 ^ 63) : Go.bits .and .i64 a b = ((a &&& b : Nat) : Int) := (bits_nat .i64 63 (by decide) (fun n h0 h1 => wrap_small n h0 h1) a b ha hb).1
theorem small8 (P : Nat → Nat → Prop) [∀ a b, Decidable (P a b)] (h : ((List.range 8).all fun a => (List.range 8).all fun b => decide (P a b)) = true) (a b : Int) (h0 : 0 ≤ a) (h1 : a < 8) (h2 : 0 ≤ b) (h3 : b < 8) : P a.toNat b.toNat := by
  rw [List.all_eq_true] at h
  have := h a.toNat (List.mem_range.2 (by omega))
  rw [List.all_eq_true] at this
  exact of_decide_eq_true (this b.toNat (List.mem_range.2 (by omega)))
/-- Are all bits of b in a? -/
def hasB (a b : Int) : Bool := (a / 4 ≥ b / 4) && (a / 2 % 2 ≥ b / 2 % 2) && (a % 2 ≥ b % 2)
theorem has_and (a b : Int) (h0 : 0 ≤ a) (h1 : a < 8) (h2 : 0 ≤ b) (h3 : b < 8) : (Go.bits .and .i64 a b == b) = hasB a b := by
  have h := small8 (fun a b => ((a &&& b : Nat) == b) = hasB a b) (by decide +kernel) a b h0 h1 h2 h3
  have ea : (a.toNat : Int) = a := by omega
  have eb : (b.toNat : Int) = b := by omega
  have hn := and_nat a.toNat b.toNat (by omega) (by omega)
  simp only [ea, eb] at h hn
  rw [hn, ← h, Bool.eq_iff_iff]
  simp only [beq_iff_eq]
  omega
theorem has7 (b : Int) (h2 : 0 ≤ b) (h3 : b < 8) : hasB 7 b = true := by unfold hasB; simp; omega
theorem has6 (b : Int) (h2 : 0 ≤ b) (h3 : b < 8) : hasB 6 b = decide (b % 2 = 0) := by
  unfold hasB
  by_cases c : b % 2 = 0
  · simp [c]; omega
  · simp [c]
    omega
theorem and73 (m : Int) (h0 : 0 ≤ m) (h1 : m < 4096) : Go.bits .and .i64 m 73 = 0 ↔ (m % 2 = 0 ∧ m / 8 % 2 = 0 ∧ m / 64 % 2 = 0) := by
  have h : ((List.range 4096).all fun a => decide ((a &&& 73 = 0) ↔ (a % 2 = 0 ∧ a / 8 % 2 = 0 ∧ a / 64 % 2 = 0))) = true := by decide +kernel
  rw [List.all_eq_true] at h
  have hm := of_decide_eq_true (h m.toNat (List.mem_range.2 (by omega)))
  have hn := and_nat m.toNat 73 (by omega) (by decide)
  have ea : (m.toNat : Int) = m := by omega
  rw [ea] at hn
  have hn' : Go.bits .and .i64 m 73 = ((m.toNat &&& 73 : Nat) : Int) := hn
  rw [hn']
  omega
/-- What both say. -/
def mayB (kind m uid gid u g w : Int) : Bool := if u = 0 then decide (w % 2 = 0 ∨ kind = 2 ∨ ¬ (m % 2 = 0 ∧ m / 8 % 2 = 0 ∧ m / 64 % 2 = 0)) else if u = uid then hasB (m / 64 % 8) w else if g = gid then hasB (m / 8 % 8) w else hasB (m % 8) w
theorem may_eq (n0 n1 kind m uid gid n6 n7 n8 n9 n10 n11 : Int) (s : ByteArray) (u g want : Int) (h0 : 0 ≤ m) (h1 : m < 4096) :
    perm_May.f n0 n1 kind m uid gid n6 n7 n8 n9 n10 n11 s u g want = some (mayB kind m uid gid u g (want % 8)) := by
  have b0 : 0 ≤ want % 8 ∧ want % 8 < 8 := by omega
  unfold perm_May.f perm_bits.f mayB
  simp only [and7]
  by_cases c0 : u = 0
  · rw [if_pos c0, if_pos c0]
    by_cases c1 : kind = 2
    · rw [if_pos c1]
      simp only [Option.bind_some]
      rw [has_and 7 _ (by omega) (by omega) b0.1 b0.2, has7 _ b0.1 b0.2]
      simp [c1]
    · rw [if_neg c1]
      by_cases c2 : Go.bits .and .i64 m 73 = 0
      · rw [if_pos c2]
        have c2' := (and73 m h0 h1).1 c2
        simp only [Option.bind_some]
        rw [has_and 6 _ (by omega) (by omega) b0.1 b0.2, has6 _ b0.1 b0.2]
        simp [c1, c2']
      · rw [if_neg c2]
        have c2' : ¬ (m % 2 = 0 ∧ m / 8 % 2 = 0 ∧ m / 64 % 2 = 0) := fun h => c2 ((and73 m h0 h1).2 h)
        simp only [Option.bind_some]
        rw [has_and 7 _ (by omega) (by omega) b0.1 b0.2, has7 _ b0.1 b0.2]
        rw [decide_eq_true (Or.inr (Or.inr c2'))]
  · rw [if_neg c0, if_neg c0]
    by_cases c1 : u = uid
    · rw [if_pos c1, if_pos c1]
      simp only [Option.bind_some]
      rw [has_and _ _ (by omega) (by omega) b0.1 b0.2]
    · rw [if_neg c1, if_neg c1]
      by_cases c2 : g = gid
      · rw [if_pos c2, if_pos c2]
        simp only [Option.bind_some]
        rw [has_and _ _ (by omega) (by omega) b0.1 b0.2]
      · rw [if_neg c2, if_neg c2]
        simp only [Option.bind_some]
        rw [has_and _ _ (by omega) (by omega) b0.1 b0.2]
theorem perm_awake : domesdaylaw07_awake.f = some true := by kernel_rfl
theorem small88 (P : Nat → Nat → Nat → Prop) [∀ a b c, Decidable (P a b c)] (h : ((List.range 8).all fun a => (List.range 8).all fun b => (List.range 8).all fun c => decide (P a b c)) = true) (a b c : Int) (h0 : 0 ≤ a) (h1 : a < 8) (h2 : 0 ≤ b) (h3 : b < 8) (h4 : 0 ≤ c) (h5 : c < 8) :
    P a.toNat b.toNat c.toNat := by
  rw [List.all_eq_true] at h
  have := h a.toNat (List.mem_range.2 (by omega))
  rw [List.all_eq_true] at this
  have := this b.toNat (List.mem_range.2 (by omega))
  rw [List.all_eq_true] at this
  exact of_decide_eq_true (this c.toNat (List.mem_range.2 (by omega)))
/-- The union of two. -/
def un (x y : Int) : Int := ((x.toNat ||| y.toNat : Nat) : Int)
theorem or_eq (x y : Int) (h0 : 0 ≤ x) (h1 : x < 8) (h2 : 0 ≤ y) (h3 : y < 8) : Go.bits .or .i64 x y = un x y := by
  have h := (bits_nat .i64 63 (by decide) (fun n h0 h1 => wrap_small n h0 h1) x.toNat y.toNat (by omega) (by omega)).2
  rw [show (x.toNat : Int) = x from by omega, show (y.toNat : Int) = y from by omega] at h
  exact h
theorem un_bd (x y : Int) (h0 : 0 ≤ x) (h1 : x < 8) (h2 : 0 ≤ y) (h3 : y < 8) : 0 ≤ un x y ∧ un x y < 8 := by
  have h := small8 (fun a b => (a ||| b) < 8) (by decide +kernel) x y h0 h1 h2 h3
  unfold un
  omega
theorem un_odd (x y : Int) (h0 : 0 ≤ x) (h1 : x < 8) (h2 : 0 ≤ y) (h3 : y < 8) : un x y % 2 = 0 ↔ (x % 2 = 0 ∧ y % 2 = 0) := by
  have h := small8 (fun a b => ((a ||| b) % 2 = 0) ↔ (a % 2 = 0 ∧ b % 2 = 0)) (by decide +kernel) x y h0 h1 h2 h3
  unfold un
  omega
theorem has_un (a x y : Int) (g0 : 0 ≤ a) (g1 : a < 8) (h0 : 0 ≤ x) (h1 : x < 8) (h2 : 0 ≤ y) (h3 : y < 8) : hasB a (un x y) = (hasB a x && hasB a y) := by
  have hb := un_bd x y h0 h1 h2 h3
  rw [← has_and a _ g0 g1 hb.1 hb.2, ← has_and a x g0 g1 h0 h1, ← has_and a y g0 g1 h2 h3]
  have h := small88 (fun a x y => ((a &&& (x ||| y)) = (x ||| y)) ↔ ((a &&& x = x) ∧ (a &&& y = y))) (by decide +kernel) a x y g0 g1 h0 h1 h2 h3
  have ea : (a.toNat : Int) = a := by omega
  have e1 := and_nat a.toNat (x.toNat ||| y.toNat) (by omega) (by unfold un at hb; omega)
  have e2 := and_nat a.toNat x.toNat (by omega) (by omega)
  have e3 := and_nat a.toNat y.toNat (by omega) (by omega)
  rw [ea] at e1 e2 e3
  rw [show ((x.toNat : Nat) : Int) = x from by omega] at e2
  rw [show ((y.toNat : Nat) : Int) = y from by omega] at e3
  have e1' : Go.bits .and .i64 a (un x y) = ((a.toNat &&& (x.toNat ||| y.toNat) : Nat) : Int) := e1
  rw [e1', e2, e3, Bool.eq_iff_iff]
  simp only [Bool.and_eq_true, beq_iff_eq]
  unfold un
  omega
theorem may_un (kind m uid gid u g x y : Int) (h0 : 0 ≤ x) (h1 : x < 8) (h2 : 0 ≤ y) (h3 : y < 8) : mayB kind m uid gid u g (un x y) = (mayB kind m uid gid u g x && mayB kind m uid gid u g y) := by
  have ho := un_odd x y h0 h1 h2 h3
  unfold mayB
  by_cases c0 : u = 0
  · simp only [if_pos c0]
    rw [Bool.eq_iff_iff]
    simp only [Bool.and_eq_true, decide_eq_true_eq, ho]
    omega
  · simp only [if_neg c0]
    by_cases c1 : u = uid
    · simp only [if_pos c1]; exact has_un _ _ _ (by omega) (by omega) h0 h1 h2 h3
    · simp only [if_neg c1]
      by_cases c2 : g = gid
      · simp only [if_pos c2]; exact has_un _ _ _ (by omega) (by omega) h0 h1 h2 h3
      · simp only [if_neg c2]; exact has_un _ _ _ (by omega) (by omega) h0 h1 h2 h3
theorem has0 (a : Int) (h0 : 0 ≤ a) : hasB a 0 = true := by
  unfold hasB
  simp only [Bool.and_eq_true, decide_eq_true_eq]
  omega
theorem may_0 (kind m uid gid u g : Int) : mayB kind m uid gid u g 0 = true := by
  unfold mayB
  by_cases c0 : u = 0
  · simp [c0]
  · simp only [if_neg c0]
    repeat' split
    all_goals exact has0 _ (by omega)
theorem PermEach (n0 n1 kind mode uid gid n6 n7 n8 n9 n10 n11 : Int) (s : ByteArray) (u g x y : Int) (_ : (Lit.int .i64 n0).wf = true) (_ : (Lit.int .i64 n1).wf = true) (_ : (Lit.int .i64 kind).wf = true) (_ : (Lit.int .i64 mode).wf = true)
    (_ : (Lit.int .i64 uid).wf = true) (_ : (Lit.int .i64 gid).wf = true) (_ : (Lit.int .i64 n6).wf = true) (_ : (Lit.int .i64 n7).wf = true) (_ : (Lit.int .i64 n8).wf = true) (_ : (Lit.int .i64 n9).wf = true) (_ : (Lit.int .i64 n10).wf = true)
    (_ : (Lit.int .i64 n11).wf = true) (_ : s.size ≤ maxLen) (_ : (Lit.int .i64 u).wf = true) (_ : (Lit.int .i64 g).wf = true) (wx : (Lit.int .u8 x).wf = true) (wy : (Lit.int .u8 y).wf = true) :
    domesdaylaw07_PermEach.f n0 n1 kind mode uid gid n6 n7 n8 n9 n10 n11 s u g x y = some true := by
  have bx := Go.bounds_u8 wx
  have byy := Go.bounds_u8 wy
  unfold domesdaylaw07_PermEach.f
  rw [mod_pos mode 4096 (by omega) (by omega), tmod_nn x 8 bx.1, tmod_nn y 8 byy.1, wrap_id (x % 8) (by omega) (by omega), wrap_id (y % 8) (by omega) (by omega), or_eq _ _ (by omega) (by omega) (by omega) (by omega)]
  have hb := un_bd (x % 8) (y % 8) (by omega) (by omega) (by omega) (by omega)
  simp only [may_eq _ _ _ _ _ _ _ _ _ _ _ _ _ _ _ _ (show 0 ≤ mode % 4096 by omega) (show mode % 4096 < 4096 by omega), Option.bind_some, perm_awake, if_true]
  rw [show un (x % 8) (y % 8) % 8 = un (x % 8) (y % 8) from by omega, show x % 8 % 8 = x % 8 from by omega, show y % 8 % 8 = y % 8 from by omega, may_un _ _ _ _ _ _ _ _ (by omega) (by omega) (by omega) (by omega)]
  have h6 : mayB kind (mode % 4096) uid gid 0 g (6 % 8) = true := by unfold mayB; simp
  have h0 : mayB kind (mode % 4096) uid gid u g (0 % 8) = true := may_0 ..
  rw [h6, h0]
  cases mayB kind (mode % 4096) uid gid u g (x % 8) <;> simp
end Go.Proofs.Ytngcecmfgjgigaa.Pure
