/- P7.1: of all nodes (with modes of 12 bits), and all that ask, it is told whether they may. No condition. -/
import Derived.Test.YtngcecmfgjgigaaQPermMayx2
import Derived.OpenShut
namespace Go.Proofs.Ytngcecmfgjgigaa.Pure
open Go.RowKit Go.Proofs.Ytngcecmfgjgigaa.QPermMay Go.Proofs.Ytngcecmfgjgigaa.Ext Go.Proofs.YtngcecmfgjgigaaW.PrintWords Go.Proofs.YtngcecmfgjgigaaW.PrintLast Go.Proofs.YtngcecmfgjgigaaW.PrintMore
set_option linter.unusedVariables false
set_option linter.unusedSimpArgs false

theorem wrap_id (x : Int) (h : -9223372036854775808 ≤ x) (h' : x ≤ 9223372036854775807) : wrap64 x = x := by unfold wrap64; omega
theorem tdiv_nn (x d : Int) (h : 0 ≤ x) : Int.tdiv x d = x / d := Int.tdiv_eq_ediv_of_nonneg h
theorem tmod_nn (x d : Int) (h : 0 ≤ x) : Int.tmod x d = x % d := Int.tmod_eq_emod_of_nonneg h
theorem mod_pos (x d : Int) (hd : 0 < d) (hd' : d ≤ 1000000) : Int.tmod (wrap64 (Int.tmod x d + d)) d = x % d := by
  have h1 := Int.lt_tmod_of_pos x hd
  have h2 := Int.tmod_lt_of_pos x hd
  rw [wrap_id _ (by omega) (by omega), tmod_nn _ _ (by omega)]
  have e := Int.tmod_eq_emod (a := x) (b := d)
  have e2 := Int.emod_nonneg x (show d ≠ 0 by omega)
  have e3 := Int.emod_lt_of_pos x hd
  have e4 : (d.natAbs : Int) = d := by omega
  by_cases g : 0 ≤ x ∨ d ∣ x
  · rw [if_pos g] at e
    rw [show Int.tmod x d + d = x % d + d * 1 from by omega, Int.add_mul_emod_self_left, Int.emod_emod_of_dvd _ (Int.dvd_refl d)]
  · rw [if_neg g, e4] at e
    rw [show Int.tmod x d + d = x % d from by omega, Int.emod_emod_of_dvd _ (Int.dvd_refl d)]
theorem wrap_small (n : Int) (h0 : 0 ≤ n) (h1 : n < 2 ^ 63) : IntKind.i64.wrap n = n := by rw [IntKind.wrap_i64]; omega
theorem and7 (x : Int) : Go.bits .and .i64 x 7 = x % 8 := by
  have hb : (BitVec.ofInt 64 x).toNat = (x % 18446744073709551616).toNat := by simp
  have h7 : (BitVec.ofInt 64 7).toNat = 7 := by decide
  show IntKind.i64.wrap (((BitVec.ofInt 64 x &&& BitVec.ofInt 64 7).toNat : Nat) : Int) = x % 8
  rw [BitVec.toNat_and, hb, h7, show (7 : Nat) = 2 ^ 3 - 1 from rfl, Nat.and_two_pow_sub_one_eq_mod, wrap_small _ (by omega) (by omega)]
  omega
theorem and_nat (a b : Nat) (ha : a < 2 ^ 63) (hb : b < 2 ^ 63) : Go.bits .and .i64 a b = ((a &&& b : Nat) : Int) := (bits_nat .i64 63 (by decide) (fun n h0 h1 => wrap_small n h0 h1) a b ha hb).1
theorem small8 (P : Nat → Nat → Prop) [∀ a b, Decidable (P a b)] (h : ((List.range 8).all fun a => (List.range 8).all fun b => decide (P a b)) = true) (a b : Int) (h0 : 0 ≤ a) (h1 : a < 8) (h2 : 0 ≤ b) (h3 : b < 8) : P a.toNat b.toNat := by
  rw [List.all_eq_true] at h
  have := h a.toNat (List.mem_range.2 (by omega))
  rw [List.all_eq_true] at this
  exact of_decide_eq_true (this b.toNat (List.mem_range.2 (by omega)))
/-- Are all bits of b in a? -/
def hasB (a b : Int) : Bool := (a / 4 ≥ b / 4) && (a / 2 % 2 ≥ b / 2 % 2) && (a % 2 ≥ b % 2)
theorem has_and (a b : Int) (h0 : 0 ≤ a) (h1 : a < 8) (h2 : 0 ≤ b) (h3 : b < 8) : (Go.bits .and .i64 a b == b) = hasB a b := by
  have h := small8 (fun a b => ((a &&& b : Nat) == b) = hasB a b) (by decide +kernel) a b h0 h1 h2 h3
  have ea : (a.toNat : Int) = a := by omega
  have eb : (b.toNat : Int) = b := by omega
  have hn := and_nat a.toNat b.toNat (by omega) (by omega)
  simp only [ea, eb] at h hn
  rw [hn, ← h, Bool.eq_iff_iff]
  simp only [beq_iff_eq]
  omega
theorem has_eq (a b : Int) (h0 : 0 ≤ a) (h1 : a < 8) (h2 : 0 ≤ b) (h3 : b < 8) : domesdayref07_has.f a b = some (hasB a b) := by
  unfold domesdayref07_has.f hasB
  rw [tdiv_nn a 4 h0, tdiv_nn b 4 h2, tdiv_nn a 2 h0, tdiv_nn b 2 h2, wrap_id (a / 4) (by omega) (by omega), wrap_id (b / 4) (by omega) (by omega), wrap_id (a / 2) (by omega) (by omega), wrap_id (b / 2) (by omega) (by omega),
    tmod_nn (a / 2) 2 (by omega), tmod_nn (b / 2) 2 (by omega), tmod_nn a 2 h0, tmod_nn b 2 h2]
  by_cases c1 : a / 4 ≥ b / 4
  · by_cases c2 : a / 2 % 2 ≥ b / 2 % 2
    · simp [c1, c2]
    · simp [c1, c2]
  · simp [c1]
theorem has7 (b : Int) (h2 : 0 ≤ b) (h3 : b < 8) : hasB 7 b = true := by unfold hasB; simp; omega
theorem has6 (b : Int) (h2 : 0 ≤ b) (h3 : b < 8) : hasB 6 b = decide (b % 2 = 0) := by
  unfold hasB
  by_cases c : b % 2 = 0
  · simp [c]; omega
  · simp [c]
    omega
theorem and73 (m : Int) (h0 : 0 ≤ m) (h1 : m < 4096) : Go.bits .and .i64 m 73 = 0 ↔ (m % 2 = 0 ∧ m / 8 % 2 = 0 ∧ m / 64 % 2 = 0) := by
  have h : ((List.range 4096).all fun a => decide ((a &&& 73 = 0) ↔ (a % 2 = 0 ∧ a / 8 % 2 = 0 ∧ a / 64 % 2 = 0))) = true := by decide +kernel
  rw [List.all_eq_true] at h
  have hm := of_decide_eq_true (h m.toNat (List.mem_range.2 (by omega)))
  have hn := and_nat m.toNat 73 (by omega) (by decide)
  have ea : (m.toNat : Int) = m := by omega
  rw [ea] at hn
  have hn' : Go.bits .and .i64 m 73 = ((m.toNat &&& 73 : Nat) : Int) := hn
  rw [hn']
  omega
theorem digit_ev (m : Int) (h0 : 0 ≤ m) (h1 : m < 4096) :
    Ev (fun k => domesdayref07_digit.f k m 0) (m % 8) ∧ Ev (fun k => domesdayref07_digit.f k m 1) (m / 8 % 8) ∧ Ev (fun k => domesdayref07_digit.f k m 2) (m / 64 % 8) ∧ Ev (fun k => domesdayref07_digit.f k m 3) (m / 512 % 8) := by
  have stop : ∀ (x n : Int), 0 ≤ x → Ev (fun k => domesdayref07_digit.l0 k x n n) (x % 8) := by
    intro x n hx
    refine Ev.step (fun k => by simp only [domesdayref07_digit.l0]; rfl) ?_
    simp only [Int.lt_irrefl, if_false]
    rw [tmod_nn _ _ hx]
    exact Ev.now _
  have go : ∀ (x n i r : Int), 0 ≤ x → x ≤ 1000000 → 0 ≤ i → i < n → n ≤ 10 → Ev (fun k => domesdayref07_digit.l0 k (x / 8) n (i + 1)) r → Ev (fun k => domesdayref07_digit.l0 k x n i) r := by
    intro x n i r hx hx' hi hin hn h
    refine Ev.step (fun k => by simp only [domesdayref07_digit.l0]; rfl) ?_
    simp only [if_pos hin]
    rw [tdiv_nn _ _ hx, wrap_id (x / 8) (by omega) (by omega), wrap_id (i + 1) (by omega) (by omega)]
    exact h
  unfold domesdayref07_digit.f
  refine ⟨stop m 0 h0, go m 1 0 _ h0 (by omega) (by omega) (by omega) (by omega) (stop (m / 8) 1 (by omega)), ?_, ?_⟩
  · have h := stop (m / 8 / 8) 2 (by omega)
    rw [show m / 8 / 8 = m / 64 from by omega] at h
    refine go m 2 0 _ h0 (by omega) (by omega) (by omega) (by omega) (go (m / 8) 2 1 _ (by omega) (by omega) (by omega) (by omega) (by omega) ?_)
    rw [show m / 8 / 8 = m / 64 from by omega]
    exact h
  · have h := stop (m / 512) 3 (by omega)
    refine go m 3 0 _ h0 (by omega) (by omega) (by omega) (by omega) (go (m / 8) 3 1 _ (by omega) (by omega) (by omega) (by omega) (by omega) (go (m / 8 / 8) 3 2 _ (by omega) (by omega) (by omega) (by omega) (by omega) ?_))
    rw [show m / 8 / 8 / 8 = m / 512 from by omega]
    exact h
theorem anyX_ev (m : Int) (h0 : 0 ≤ m) (h1 : m < 4096) : Ev (fun k => domesdayref07_anyX.f k m) (decide (¬ (m % 2 = 0 ∧ m / 8 % 2 = 0 ∧ m / 64 % 2 = 0))) := by
  obtain ⟨e0, e1, e2, _⟩ := digit_ev m h0 h1
  unfold domesdayref07_anyX.f
  refine Ev.bind e0 ?_
  rw [tmod_nn (m % 8) 2 (by omega)]
  by_cases c0 : m % 8 % 2 = 1
  · simp only [if_pos c0]
    rw [decide_eq_true (show ¬ (m % 2 = 0 ∧ m / 8 % 2 = 0 ∧ m / 64 % 2 = 0) by omega)]
    exact Ev.now _
  · simp only [if_neg c0]
    refine Ev.bind e1 ?_
    rw [tmod_nn (m / 8 % 8) 2 (by omega)]
    by_cases c1 : m / 8 % 8 % 2 = 1
    · simp only [if_pos c1]
      rw [decide_eq_true (show ¬ (m % 2 = 0 ∧ m / 8 % 2 = 0 ∧ m / 64 % 2 = 0) by omega)]
      exact Ev.now _
    · simp only [if_neg c1]
      refine Ev.bind e2 ?_
      rw [tmod_nn (m / 64 % 8) 2 (by omega)]
      refine Ev.congr (fun k => ?_) (Ev.now _)
      congr 1
      rw [Bool.eq_iff_iff]
      simp only [beq_iff_eq, decide_eq_true_eq]
      omega
/-- What both say. -/
def mayB (kind m uid gid u g w : Int) : Bool := if u = 0 then decide (w % 2 = 0 ∨ kind = 2 ∨ ¬ (m % 2 = 0 ∧ m / 8 % 2 = 0 ∧ m / 64 % 2 = 0)) else if u = uid then hasB (m / 64 % 8) w else if g = gid then hasB (m / 8 % 8) w else hasB (m % 8) w
theorem may_eq (n0 n1 kind m uid gid n6 n7 n8 n9 n10 n11 : Int) (s : ByteArray) (u g want : Int) (h0 : 0 ≤ m) (h1 : m < 4096) :
    perm_May.f n0 n1 kind m uid gid n6 n7 n8 n9 n10 n11 s u g want = some (mayB kind m uid gid u g (want % 8)) := by
  have b0 : 0 ≤ want % 8 ∧ want % 8 < 8 := by omega
  unfold perm_May.f perm_bits.f mayB
  simp only [and7]
  by_cases c0 : u = 0
  · rw [if_pos c0, if_pos c0]
    by_cases c1 : kind = 2
    · rw [if_pos c1]
      simp only [Option.bind_some]
      rw [has_and 7 _ (by omega) (by omega) b0.1 b0.2, has7 _ b0.1 b0.2]
      simp [c1]
    · rw [if_neg c1]
      by_cases c2 : Go.bits .and .i64 m 73 = 0
      · rw [if_pos c2]
        have c2' := (and73 m h0 h1).1 c2
        simp only [Option.bind_some]
        rw [has_and 6 _ (by omega) (by omega) b0.1 b0.2, has6 _ b0.1 b0.2]
        simp [c1, c2']
      · rw [if_neg c2]
        have c2' : ¬ (m % 2 = 0 ∧ m / 8 % 2 = 0 ∧ m / 64 % 2 = 0) := fun h => c2 ((and73 m h0 h1).2 h)
        simp only [Option.bind_some]
        rw [has_and 7 _ (by omega) (by omega) b0.1 b0.2, has7 _ b0.1 b0.2]
        rw [decide_eq_true (Or.inr (Or.inr c2'))]
  · rw [if_neg c0, if_neg c0]
    by_cases c1 : u = uid
    · rw [if_pos c1, if_pos c1]
      simp only [Option.bind_some]
      rw [has_and _ _ (by omega) (by omega) b0.1 b0.2]
    · rw [if_neg c1, if_neg c1]
      by_cases c2 : g = gid
      · rw [if_pos c2, if_pos c2]
        simp only [Option.bind_some]
        rw [has_and _ _ (by omega) (by omega) b0.1 b0.2]
      · rw [if_neg c2, if_neg c2]
        simp only [Option.bind_some]
        rw [has_and _ _ (by omega) (by omega) b0.1 b0.2]
theorem refMay_ev (n0 n1 kind m uid gid n6 n7 n8 n9 n10 n11 : Int) (s : ByteArray) (u g w : Int) (h0 : 0 ≤ m) (h1 : m < 4096) (w0 : 0 ≤ w) (w1 : w < 8) :
    Ev (fun k => domesdayref07_May.f k n0 n1 kind m uid gid n6 n7 n8 n9 n10 n11 s u g w) (mayB kind m uid gid u g w) := by
  obtain ⟨e0, e1, e2, _⟩ := digit_ev m h0 h1
  unfold domesdayref07_May.f mayB
  by_cases c0 : u = 0
  · simp only [if_pos c0]
    rw [tmod_nn w 2 w0]
    by_cases c1 : w % 2 = 0
    · simp only [if_pos c1]
      rw [decide_eq_true (Or.inl c1)]
      exact Ev.now _
    · simp only [if_neg c1]
      by_cases c2 : kind = 2
      · simp only [if_pos c2]
        rw [decide_eq_true (Or.inr (Or.inl c2))]
        exact Ev.now _
      · simp only [if_neg c2]
        refine Ev.bind (anyX_ev m h0 h1) ?_
        refine Ev.congr (fun k => ?_) (Ev.now _)
        simp [c1, c2]
  · simp only [if_neg c0]
    by_cases c1 : u = uid
    · simp only [if_pos c1]
      refine Ev.bind e2 ?_
      rw [has_eq _ _ (by omega) (by omega) w0 w1]
      exact Ev.now _
    · simp only [if_neg c1]
      by_cases c2 : g = gid
      · simp only [if_pos c2]
        refine Ev.bind e1 ?_
        rw [has_eq _ _ (by omega) (by omega) w0 w1]
        exact Ev.now _
      · simp only [if_neg c2]
        refine Ev.bind e0 ?_
        rw [has_eq _ _ (by omega) (by omega) w0 w1]
        exact Ev.now _
theorem perm_awake : domesdaylaw07_awake.f = some true := by kernel_rfl
theorem PermMay (n0 n1 kind mode uid gid n6 n7 n8 n9 n10 n11 : Int) (s : ByteArray) (u g want : Int) (_ : (Lit.int .i64 n0).wf = true) (_ : (Lit.int .i64 n1).wf = true) (_ : (Lit.int .i64 kind).wf = true) (_ : (Lit.int .i64 mode).wf = true)
    (_ : (Lit.int .i64 uid).wf = true) (_ : (Lit.int .i64 gid).wf = true) (_ : (Lit.int .i64 n6).wf = true) (_ : (Lit.int .i64 n7).wf = true) (_ : (Lit.int .i64 n8).wf = true) (_ : (Lit.int .i64 n9).wf = true) (_ : (Lit.int .i64 n10).wf = true)
    (_ : (Lit.int .i64 n11).wf = true) (_ : s.size ≤ maxLen) (_ : (Lit.int .i64 u).wf = true) (_ : (Lit.int .i64 g).wf = true) (_ : (Lit.int .i64 want).wf = true) :
    ∃ k, domesdaylaw07_PermMay.f k n0 n1 kind mode uid gid n6 n7 n8 n9 n10 n11 s u g want = some true := by
  refine Ev.rounds ?_
  unfold domesdaylaw07_PermMay.f
  rw [perm_awake]
  simp only [Option.bind_some, if_true]
  rw [mod_pos mode 4096 (by omega) (by omega), mod_pos want 8 (by omega) (by omega), may_eq _ _ _ _ _ _ _ _ _ _ _ _ _ _ _ _ (by omega) (by omega)]
  simp only [Option.bind_some]
  refine Ev.bind (refMay_ev _ _ _ _ _ _ _ _ _ _ _ _ _ _ _ _ (by omega) (by omega) (by omega) (by omega)) ?_
  exact Ev.congr (fun k => by simp) (Ev.now _)
end Go.Proofs.Ytngcecmfgjgigaa.Pure
