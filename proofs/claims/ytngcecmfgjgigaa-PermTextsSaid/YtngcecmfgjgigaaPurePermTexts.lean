/- P7.2: of all nodes (with modes of 12 bits) the letters, and the marks, are the chapter's. No condition. -/
import Derived.Test.YtngcecmfgjgigaaQPermTextsx4
import Derived.OpenShut
namespace Go.Proofs.Ytngcecmfgjgigaa.PureTexts
open Go.RowKit Go.Proofs.Ytngcecmfgjgigaa.QPermTexts Go.Proofs.Ytngcecmfgjgigaa.Ext Go.Proofs.YtngcecmfgjgigaaW.PrintWords Go.Proofs.YtngcecmfgjgigaaW.PrintLast Go.Proofs.YtngcecmfgjgigaaW.PrintMore
set_option linter.unusedVariables false
set_option linter.unusedSimpArgs false

theorem wrap_id (x : Int) (h : -9223372036854775808 ≤ x) (h' : x ≤ 9223372036854775807) : wrap64 x = x := by unfold wrap64; omega
theorem tdiv_nn (x d : Int) (h : 0 ≤ x) : Int.tdiv x d = x / d := Int.tdiv_eq_ediv_of_nonneg h
theorem tmod_nn (x d : Int) (h : 0 ≤ x) : Int.tmod x d = x % d := Int.tmod_eq_emod_of_nonneg h
theorem mod_pos (x d : Int) (hd : 0 < d) (hd' : d ≤ 1000000) : Int.tmod (wrap64 (Int.tmod x d + d)) d = x % d := by
  have h1 := Int.lt_tmod_of_pos x hd
  have h2 := Int.tmod_lt_of_pos x hd
  rw [wrap_id _ (by omega) (by omega), tmod_nn _ _ (by omega)]
  have e := Int.tmod_eq_emod (a := x) (b := d)
  have e2 := Int.emod_nonneg x (show d ≠ 0 by omega)
  have e3 := Int.emod_lt_of_pos x hd
  have e4 : (d.natAbs : Int) = d := by omega
  by_cases g : 0 ≤ x ∨ d ∣ x
  · rw [if_pos g] at e
    rw [show Int.tmod x d + d = x % d + d * 1 from by omega, Int.add_mul_emod_self_left, Int.emod_emod_of_dvd _ (Int.dvd_refl d)]
  · rw [if_neg g, e4] at e
    rw [show Int.tmod x d + d = x % d from by omega, Int.emod_emod_of_dvd _ (Int.dvd_refl d)]
theorem wrap_small (n : Int) (h0 : 0 ≤ n) (h1 : n < 2 ^ 63) : IntKind.i64.wrap n = n := by rw [IntKind.wrap_i64]; omega
theorem and7 (x : Int) : Go.bits .and .i64 x 7 = x % 8 := by
  have hb : (BitVec.ofInt 64 x).toNat = (x % 18446744073709551616).toNat := by simp
  have h7 : (BitVec.ofInt 64 7).toNat = 7 := by decide
  show IntKind.i64.wrap (((BitVec.ofInt 64 x &&& BitVec.ofInt 64 7).toNat : Nat) : Int) = x % 8
  rw [BitVec.toNat_and, hb, h7, show (7 : Nat) = 2 ^ 3 - 1 from rfl, Nat.and_two_pow_sub_one_eq_mod, wrap_small _ (by omega) (by omega)]
  omega
theorem and_nat (a b : Nat) (ha : a < 2 ^ 63) (hb : b < 2 ^ 63) : Go.bits .and .i64 a b = ((a &&& b : Nat) : Int) := (bits_nat .i64 63 (by decide) (fun n h0 h1 => wrap_small n h0 h1) a b ha hb).1
theorem and73 (m : Int) (h0 : 0 ≤ m) (h1 : m < 4096) : Go.bits .and .i64 m 73 = 0 ↔ (m % 2 = 0 ∧ m / 8 % 2 = 0 ∧ m / 64 % 2 = 0) := by
  have h : ((List.range 4096).all fun a => decide ((a &&& 73 = 0) ↔ (a % 2 = 0 ∧ a / 8 % 2 = 0 ∧ a / 64 % 2 = 0))) = true := by decide +kernel
  rw [List.all_eq_true] at h
  have hm := of_decide_eq_true (h m.toNat (List.mem_range.2 (by omega)))
  have hn := and_nat m.toNat 73 (by omega) (by decide)
  have ea : (m.toNat : Int) = m := by omega
  rw [ea] at hn
  have hn' : Go.bits .and .i64 m 73 = ((m.toNat &&& 73 : Nat) : Int) := hn
  rw [hn']
  omega
theorem digit_ev (m : Int) (h0 : 0 ≤ m) (h1 : m < 4096) :
    Ev (fun k => domesdayref07_digit.f k m 0) (m % 8) ∧ Ev (fun k => domesdayref07_digit.f k m 1) (m / 8 % 8) ∧ Ev (fun k => domesdayref07_digit.f k m 2) (m / 64 % 8) ∧ Ev (fun k => domesdayref07_digit.f k m 3) (m / 512 % 8) := by
  have stop : ∀ (x n : Int), 0 ≤ x → Ev (fun k => domesdayref07_digit.l0 k x n n) (x % 8) := by
    intro x n hx
    refine Ev.step (fun k => by simp only [domesdayref07_digit.l0]; rfl) ?_
    simp only [Int.lt_irrefl, if_false]
    rw [tmod_nn _ _ hx]
    exact Ev.now _
  have go : ∀ (x n i r : Int), 0 ≤ x → x ≤ 1000000 → 0 ≤ i → i < n → n ≤ 10 → Ev (fun k => domesdayref07_digit.l0 k (x / 8) n (i + 1)) r → Ev (fun k => domesdayref07_digit.l0 k x n i) r := by
    intro x n i r hx hx' hi hin hn h
    refine Ev.step (fun k => by simp only [domesdayref07_digit.l0]; rfl) ?_
    simp only [if_pos hin]
    rw [tdiv_nn _ _ hx, wrap_id (x / 8) (by omega) (by omega), wrap_id (i + 1) (by omega) (by omega)]
    exact h
  unfold domesdayref07_digit.f
  refine ⟨stop m 0 h0, go m 1 0 _ h0 (by omega) (by omega) (by omega) (by omega) (stop (m / 8) 1 (by omega)), ?_, ?_⟩
  · have h := stop (m / 8 / 8) 2 (by omega)
    rw [show m / 8 / 8 = m / 64 from by omega] at h
    refine go m 2 0 _ h0 (by omega) (by omega) (by omega) (by omega) (go (m / 8) 2 1 _ (by omega) (by omega) (by omega) (by omega) (by omega) ?_)
    rw [show m / 8 / 8 = m / 64 from by omega]
    exact h
  · have h := stop (m / 512) 3 (by omega)
    refine go m 3 0 _ h0 (by omega) (by omega) (by omega) (by omega) (go (m / 8) 3 1 _ (by omega) (by omega) (by omega) (by omega) (by omega) (go (m / 8 / 8) 3 2 _ (by omega) (by omega) (by omega) (by omega) (by omega) ?_))
    rw [show m / 8 / 8 / 8 = m / 512 from by omega]
    exact h
theorem anyX_ev (m : Int) (h0 : 0 ≤ m) (h1 : m < 4096) : Ev (fun k => domesdayref07_anyX.f k m) (decide (¬ (m % 2 = 0 ∧ m / 8 % 2 = 0 ∧ m / 64 % 2 = 0))) := by
  obtain ⟨e0, e1, e2, _⟩ := digit_ev m h0 h1
  unfold domesdayref07_anyX.f
  refine Ev.bind e0 ?_
  rw [tmod_nn (m % 8) 2 (by omega)]
  by_cases c0 : m % 8 % 2 = 1
  · simp only [if_pos c0]
    rw [decide_eq_true (show ¬ (m % 2 = 0 ∧ m / 8 % 2 = 0 ∧ m / 64 % 2 = 0) by omega)]
    exact Ev.now _
  · simp only [if_neg c0]
    refine Ev.bind e1 ?_
    rw [tmod_nn (m / 8 % 8) 2 (by omega)]
    by_cases c1 : m / 8 % 8 % 2 = 1
    · simp only [if_pos c1]
      rw [decide_eq_true (show ¬ (m % 2 = 0 ∧ m / 8 % 2 = 0 ∧ m / 64 % 2 = 0) by omega)]
      exact Ev.now _
    · simp only [if_neg c1]
      refine Ev.bind e2 ?_
      rw [tmod_nn (m / 64 % 8) 2 (by omega)]
      refine Ev.congr (fun k => ?_) (Ev.now _)
      congr 1
      rw [Bool.eq_iff_iff]
      simp only [beq_iff_eq, decide_eq_true_eq]
      omega

theorem and1 (x : Int) : Go.bits .and .i64 x 1 = x % 2 := by
  have hb : (BitVec.ofInt 64 x).toNat = (x % 18446744073709551616).toNat := by simp
  have h7 : (BitVec.ofInt 64 1).toNat = 1 := by decide
  show IntKind.i64.wrap (((BitVec.ofInt 64 x &&& BitVec.ofInt 64 1).toNat : Nat) : Int) = x % 2
  rw [BitVec.toNat_and, hb, h7, show (1 : Nat) = 2 ^ 1 - 1 from rfl, Nat.and_two_pow_sub_one_eq_mod, wrap_small _ (by omega) (by omega)]
  omega
def R1 (d : Int) : ByteArray := rdOf ByteArray.empty [(⟨#[45]⟩ : ByteArray), (⟨#[114]⟩ : ByteArray)] (d / 4)
def R2 (d : Int) : ByteArray := rdOf ByteArray.empty [(⟨#[45]⟩ : ByteArray), (⟨#[119]⟩ : ByteArray)] (d / 2 % 2)
def S3 (d : Int) (b z : Bool) : ByteArray := rdOf ByteArray.empty [(⟨#[45]⟩ : ByteArray), (⟨#[120]⟩ : ByteArray), if z = true then (⟨#[84]⟩ : ByteArray) else (⟨#[83]⟩ : ByteArray), if z = true then (⟨#[116]⟩ : ByteArray) else (⟨#[115]⟩ : ByteArray)] (if b = true then d % 2 + 2 else d % 2)
def tri (d : Int) (b z : Bool) : ByteArray := (R1 d ++ R2 d) ++ S3 d b z
theorem small (P : Int → Bool → Bool → Prop) (h : ∀ d : Fin 8, ∀ b z : Bool, P (d.val : Int) b z) (d : Int) (h0 : 0 ≤ d) (h1 : d < 8) (b z : Bool) : P d b z := by
  have := h ⟨d.toNat, by omega⟩ b z
  rwa [show ((⟨d.toNat, by omega⟩ : Fin 8).val : Int) = d from by simp; omega] at this
theorem three_eq (d : Int) (h0 : 0 ≤ d) (h1 : d < 8) (b z : Bool) : perm_three.f d b (if z = true then 116 else 115) = some (tri d b z) :=
  small (fun d b z => perm_three.f d b (if z = true then 116 else 115) = some (tri d b z)) (by decide +kernel) d h0 h1 b z
theorem sizes (d : Int) (h0 : 0 ≤ d) (h1 : d < 8) (b z : Bool) : (R1 d).size = 1 ∧ (R2 d).size = 1 ∧ (S3 d b z).size = 1 :=
  small (fun d b z => (R1 d).size = 1 ∧ (R2 d).size = 1 ∧ (S3 d b z).size = 1) (by decide +kernel) d h0 h1 b z
theorem app_assoc (a b c : ByteArray) : a ++ b ++ c = a ++ (b ++ c) := by
  cases a; cases b; cases c
  apply ByteArray.ext
  simp [ByteArray.data_append, Array.append_assoc]
theorem step_ev (i : Int) (z : Bool) (hz : (i = 0 ∧ z = true) ∨ (i = 1 ∧ z = false) ∨ (i = 2 ∧ z = false)) (s : ByteArray) (hs : s.size ≤ 100) (sp m d : Int) (h0 : 0 ≤ d) (h1 : d < 8) (p0 : 0 ≤ sp) (p1 : sp < 8)
    (hd : Ev (fun k => domesdayref07_digit.f k m i) d) (b : Bool) (hb : b = true ↔ (i = 2 ∧ sp / 4 = 1 ∨ i = 1 ∧ sp / 2 % 2 = 1 ∨ i = 0 ∧ sp % 2 = 1)) (n0 n1 n2 n4 n5 n6 n7 n8 n9 n10 n11 : Int) (n12 : ByteArray) (r : ByteArray)
    (h : Ev (fun k => domesdayref07_Text.l0 k (s ++ tri d b z) sp (i - 1) n0 n1 n2 m n4 n5 n6 n7 n8 n9 n10 n11 n12) r) : Ev (fun k => domesdayref07_Text.l0 k s sp i n0 n1 n2 m n4 n5 n6 n7 n8 n9 n10 n11 n12) r := by
  obtain ⟨z1, z2, z3⟩ := sizes d h0 h1 b z
  have t1 : s ++ tri d b z = s ++ (R1 d ++ R2 d) ++ S3 d b z := by unfold tri; rw [app_assoc s]
  rw [t1] at h
  have j2 : Ev (fun k => domesdayref07_Text.j2 k (s ++ (R1 d ++ R2 d)) sp i (Int.tmod d 2) b n0 n1 n2 m n4 n5 n6 n7 n8 n9 n10 n11 n12 (⟨#[45]⟩ : ByteArray) (⟨#[120]⟩ : ByteArray) (if z = true then (⟨#[84]⟩ : ByteArray) else (⟨#[83]⟩ : ByteArray)) (if z = true then (⟨#[116]⟩ : ByteArray) else (⟨#[115]⟩ : ByteArray))) r := by
    refine Ev.step (fun k => by rw [domesdayref07_Text.j2]) ?_
    rw [tmod_nn _ _ h0, wrap_id (d % 2 + 2) (by omega) (by omega), wrap_id (i - 1) (by omega) (by omega)]
    cases b with
    | true =>
      have e : rdOf ByteArray.empty [(⟨#[45]⟩ : ByteArray), (⟨#[120]⟩ : ByteArray), if z = true then (⟨#[84]⟩ : ByteArray) else (⟨#[83]⟩ : ByteArray), if z = true then (⟨#[116]⟩ : ByteArray) else (⟨#[115]⟩ : ByteArray)] (d % 2 + 2) = S3 d true z := rfl
      simp only [if_true, e]
      refine Ev.congr (fun k => ?_) h
      rw [if_pos (by omega), if_pos (by omega), if_pos (by simp only [ByteArray.size_append]; omega)]
    | false =>
      have e : rdOf ByteArray.empty [(⟨#[45]⟩ : ByteArray), (⟨#[120]⟩ : ByteArray), if z = true then (⟨#[84]⟩ : ByteArray) else (⟨#[83]⟩ : ByteArray), if z = true then (⟨#[116]⟩ : ByteArray) else (⟨#[115]⟩ : ByteArray)] (d % 2) = S3 d false z := rfl
      simp only [Bool.false_eq_true, if_false, e]
      refine Ev.congr (fun k => ?_) h
      rw [if_pos (by omega), if_pos (by omega), if_pos (by simp only [ByteArray.size_append]; omega)]
  have j1 : Ev (fun k => domesdayref07_Text.j1 k (s ++ (R1 d ++ R2 d)) sp i d n0 n1 n2 m n4 n5 n6 n7 n8 n9 n10 n11 n12 (⟨#[45]⟩ : ByteArray) (⟨#[120]⟩ : ByteArray) (if z = true then (⟨#[84]⟩ : ByteArray) else (⟨#[83]⟩ : ByteArray)) (if z = true then (⟨#[116]⟩ : ByteArray) else (⟨#[115]⟩ : ByteArray))) r := by
    refine Ev.step (fun k => by rw [domesdayref07_Text.j1]) ?_
    rw [tdiv_nn sp 4 p0, tdiv_nn sp 2 p0, wrap_id (sp / 4) (by omega) (by omega), wrap_id (sp / 2) (by omega) (by omega), tmod_nn (sp / 2) 2 (by omega), tmod_nn sp 2 p0]
    have bb : ∀ c : Bool, (c = true ↔ b = true) → c = b := fun c hc => by rw [Bool.eq_iff_iff]; exact hc
    rcases hz with ⟨rfl, rfl⟩ | ⟨rfl, rfl⟩ | ⟨rfl, rfl⟩
    · simp only [Int.reduceEq, if_true, if_false, ite_self]
      rw [bb (sp % 2 == 1) (by rw [hb, beq_iff_eq]; omega)]
      exact j2
    · simp only [Int.reduceEq, if_true, if_false, ite_self]
      by_cases g : sp / 2 % 2 = 1
      · simp only [if_pos g]; have e : b = true := hb.2 (by omega); subst e; exact j2
      · simp only [if_neg g]; have e : b = false := Bool.eq_false_iff.mpr (fun h => by have := hb.1 h; omega); subst e; exact j2
    · simp only [Int.reduceEq, if_true, if_false, ite_self]
      by_cases g : sp / 4 = 1
      · simp only [if_pos g]; have e : b = true := hb.2 (by omega); subst e; exact j2
      · simp only [if_neg g]; have e : b = false := Bool.eq_false_iff.mpr (fun h => by have := hb.1 h; omega); subst e; exact j2
  refine Ev.step (fun k => by rw [domesdayref07_Text.l0]) ?_
  have hi : i ≥ 0 := by omega
  simp only [if_pos hi]
  refine Ev.bind hd ?_
  simp only [Option.bind_some, List.length_cons, List.length_nil]
  rw [tdiv_nn d 4 h0, tdiv_nn d 2 h0, wrap_id (d / 4) (by omega) (by omega), wrap_id (d / 2) (by omega) (by omega), tmod_nn (d / 2) 2 (by omega)]
  have e1 : rdOf ByteArray.empty [(⟨#[45]⟩ : ByteArray), (⟨#[114]⟩ : ByteArray)] (d / 4) = R1 d := rfl
  have e2 : rdOf ByteArray.empty [(⟨#[45]⟩ : ByteArray), (⟨#[119]⟩ : ByteArray)] (d / 2 % 2) = R2 d := rfl
  rw [e1, e2]
  refine Ev.congr (fun k => ?_) j1
  rw [if_pos (by omega), if_pos (by omega), if_pos (by omega), if_pos (by omega), if_pos (by omega), if_pos (by omega)]
  rcases hz with ⟨rfl, rfl⟩ | ⟨rfl, rfl⟩ | ⟨rfl, rfl⟩
  · rfl
  · rfl
  · rfl
/-! ### kinds and marks -/
def KB (kind : Int) : ByteArray := if kind = 1 then ⟨#[45]⟩ else if kind = 2 then ⟨#[100]⟩ else if kind = 3 then ⟨#[108]⟩ else ⟨#[63]⟩
theorem KB_size (kind : Int) : (KB kind).size ≤ 1 := by
  unfold KB
  split
  · decide
  · split
    · decide
    · split <;> decide
theorem kind_eq (n0 n1 kind n3 n4 n5 n6 n7 n8 n9 n10 n11 : Int) (s : ByteArray) : perm_Kind.f n0 n1 kind n3 n4 n5 n6 n7 n8 n9 n10 n11 s = some (KB kind) := by
  unfold perm_Kind.f KB
  split
  · rfl
  · split
    · rfl
    · split <;> rfl
theorem rkind_ev (n0 n1 kind n3 n4 n5 n6 n7 n8 n9 n10 n11 : Int) (s : ByteArray) : Ev (fun k => domesdayref07_Kind.f k n0 n1 kind n3 n4 n5 n6 n7 n8 n9 n10 n11 s) (KB kind) := by
  unfold domesdayref07_Kind.f
  by_cases g : kind < 1
  · simp only [if_pos g]
    refine Ev.step (fun k => by rw [domesdayref07_Kind.j0]) ?_
    simp only [if_true]
    rw [show KB kind = ⟨#[63]⟩ from by unfold KB; rw [if_neg (by omega), if_neg (by omega), if_neg (by omega)]]
    exact Ev.now _
  · simp only [if_neg g]
    refine Ev.step (fun k => by rw [domesdayref07_Kind.j0]) ?_
    by_cases g' : kind > 3
    · simp only [decide_eq_true g', if_true]
      rw [show KB kind = ⟨#[63]⟩ from by unfold KB; rw [if_neg (by omega), if_neg (by omega), if_neg (by omega)]]
      exact Ev.now _
    · simp only [decide_eq_false g', Bool.false_eq_true, if_false]
      have : kind = 1 ∨ kind = 2 ∨ kind = 3 := by omega
      rcases this with rfl | rfl | rfl
      · exact Ev.now _
      · exact Ev.now _
      · exact Ev.now _
def MB (kind m : Int) : ByteArray := if kind = 2 then ⟨#[47]⟩ else if kind = 3 then ⟨#[64]⟩ else if kind = 1 ∧ ¬ (m % 2 = 0 ∧ m / 8 % 2 = 0 ∧ m / 64 % 2 = 0) then ⟨#[42]⟩ else ⟨#[]⟩
theorem mark_ev (n0 n1 kind m n4 n5 n6 n7 n8 n9 n10 n11 : Int) (s : ByteArray) (h0 : 0 ≤ m) (h1 : m < 4096) : Ev (fun k => perm_Mark.f k n0 n1 kind m n4 n5 n6 n7 n8 n9 n10 n11 s) (MB kind m) := by
  unfold perm_Mark.f MB
  by_cases g : kind = 2
  · simp only [if_pos g]; exact Ev.now _
  · simp only [if_neg g]
    by_cases g3 : kind = 3
    · simp only [if_pos g3]; exact Ev.now _
    · simp only [if_neg g3]
      by_cases g1 : kind = 1
      · simp only [if_pos g1]
        refine Ev.step (fun k => by rw [perm_Mark.j0]) ?_
        by_cases c : m % 2 = 0 ∧ m / 8 % 2 = 0 ∧ m / 64 % 2 = 0
        · have e : (Go.bits .and .i64 m 73 != 0) = false := bne_eq_false_iff_eq.mpr ((and73 m h0 h1).2 c)
          simp only [e, Bool.false_eq_true, if_false]
          rw [if_neg (by intro h; exact h.2 c)]
          exact Ev.now _
        · have e : (Go.bits .and .i64 m 73 != 0) = true := bne_iff_ne.mpr (fun h => c ((and73 m h0 h1).1 h))
          simp only [e, if_true]
          rw [if_pos ⟨g1, c⟩]
          exact Ev.now _
      · simp only [if_neg g1]
        refine Ev.step (fun k => by rw [perm_Mark.j0]) ?_
        simp only [Bool.false_eq_true, if_false]
        rw [if_neg (by intro h; exact g1 h.1)]
        exact Ev.now _
theorem rmark_ev (n0 n1 kind m n4 n5 n6 n7 n8 n9 n10 n11 : Int) (s : ByteArray) (h0 : 0 ≤ m) (h1 : m < 4096) : Ev (fun k => domesdayref07_Mark.f k n0 n1 kind m n4 n5 n6 n7 n8 n9 n10 n11 s) (MB kind m) := by
  unfold domesdayref07_Mark.f MB
  by_cases g : kind = 2
  · simp only [if_pos g]; exact Ev.now _
  · simp only [if_neg g]
    by_cases g3 : kind = 3
    · simp only [if_pos g3]; exact Ev.now _
    · simp only [if_neg g3]
      by_cases g1 : kind = 1
      · simp only [if_pos g1]
        refine Ev.bind (anyX_ev m h0 h1) ?_
        refine Ev.step (fun k => by rw [domesdayref07_Mark.j0]) ?_
        by_cases c : m % 2 = 0 ∧ m / 8 % 2 = 0 ∧ m / 64 % 2 = 0
        · rw [decide_eq_false (not_not_intro c)]
          simp only [Bool.false_eq_true, if_false]
          rw [if_neg (by intro h; exact h.2 c)]
          exact Ev.now _
        · rw [decide_eq_true c]
          simp only [if_true]
          rw [if_pos ⟨g1, c⟩]
          exact Ev.now _
      · simp only [if_neg g1]
        refine Ev.step (fun k => by rw [domesdayref07_Mark.j0]) ?_
        simp only [Bool.false_eq_true, if_false]
        rw [if_neg (by intro h; exact g1 h.1)]
        exact Ev.now _
/-! ### the letters -/
def TB (kind m : Int) : ByteArray := KB kind ++ tri (m / 64 % 8) (m / 2048 % 2 == 1) false ++ tri (m / 8 % 8) (m / 1024 % 2 == 1) false ++ tri (m % 8) (m / 512 % 2 == 1) true
theorem tri_size (d : Int) (h0 : 0 ≤ d) (h1 : d < 8) (b z : Bool) : (tri d b z).size = 3 := by
  obtain ⟨z1, z2, z3⟩ := sizes d h0 h1 b z
  unfold tri; simp only [ByteArray.size_append]; omega
theorem text_eq (n0 n1 kind m n4 n5 n6 n7 n8 n9 n10 n11 : Int) (s : ByteArray) (h0 : 0 ≤ m) (h1 : m < 4096) : perm_Text.f n0 n1 kind m n4 n5 n6 n7 n8 n9 n10 n11 s = some (TB kind m) := by
  have k1 := KB_size kind
  have t2 := three_eq (m / 64 % 8) (by omega) (by omega) (m / 2048 % 2 == 1) false
  have t1 := three_eq (m / 8 % 8) (by omega) (by omega) (m / 1024 % 2 == 1) false
  have t0 := three_eq (m % 8) (by omega) (by omega) (m / 512 % 2 == 1) true
  have s2 := tri_size (m / 64 % 8) (by omega) (by omega) (m / 2048 % 2 == 1) false
  have s1 := tri_size (m / 8 % 8) (by omega) (by omega) (m / 1024 % 2 == 1) false
  have s0 := tri_size (m % 8) (by omega) (by omega) (m / 512 % 2 == 1) true
  simp only [Bool.false_eq_true, if_false, if_true] at t2 t1 t0
  rw [perm_Text.f, kind_eq, Option.bind_some, and7, and7, and7, and1, and1, and1, t2, Option.bind_some, t1, t0]
  simp only [Option.bind_some]
  rw [if_pos (by omega), if_pos (by omega), if_pos (by omega)]
  rfl
theorem rtext_ev (n0 n1 kind m n4 n5 n6 n7 n8 n9 n10 n11 : Int) (s : ByteArray) (h0 : 0 ≤ m) (h1 : m < 4096) : Ev (fun k => domesdayref07_Text.f k n0 n1 kind m n4 n5 n6 n7 n8 n9 n10 n11 s) (TB kind m) := by
  obtain ⟨e0, e1, e2, e3⟩ := digit_ev m h0 h1
  have k1 := KB_size kind
  have s2 := tri_size (m / 64 % 8) (by omega) (by omega) (m / 2048 % 2 == 1) false
  have s1 := tri_size (m / 8 % 8) (by omega) (by omega) (m / 1024 % 2 == 1) false
  unfold domesdayref07_Text.f
  refine Ev.bind (rkind_ev _ _ _ _ _ _ _ _ _ _ _ _ _) ?_
  refine Ev.bind e3 ?_
  refine step_ev 2 false (by simp) _ (by omega) (m / 512 % 8) m _ (by omega) (by omega) (by omega) (by omega) e2 (m / 2048 % 2 == 1) (by rw [beq_iff_eq]; omega) n0 n1 kind n4 n5 n6 n7 n8 n9 n10 n11 s _ ?_
  refine step_ev 1 false (by simp) _ (by simp only [ByteArray.size_append]; omega) (m / 512 % 8) m _ (by omega) (by omega) (by omega) (by omega) e1 (m / 1024 % 2 == 1) (by rw [beq_iff_eq]; omega) n0 n1 kind n4 n5 n6 n7 n8 n9 n10 n11 s _ ?_
  refine step_ev 0 true (by simp) _ (by simp only [ByteArray.size_append]; omega) (m / 512 % 8) m _ (by omega) (by omega) (by omega) (by omega) e0 (m / 512 % 2 == 1) (by rw [beq_iff_eq]; omega) n0 n1 kind n4 n5 n6 n7 n8 n9 n10 n11 s _ ?_
  refine Ev.step (fun k => by rw [domesdayref07_Text.l0]) ?_
  exact Ev.now _
theorem perm_awake : domesdaylaw07_awake.f = some true := by kernel_rfl
end Go.Proofs.Ytngcecmfgjgigaa.PureTexts
namespace Go.Proofs.Ytngcecmfgjgigaa.Pure
open Go.RowKit Go.Proofs.Ytngcecmfgjgigaa.PureTexts Go.Proofs.Ytngcecmfgjgigaa.QPermTexts Go.Proofs.YtngcecmfgjgigaaW.PrintWords
theorem PermTexts (n0 n1 kind mode n4 n5 n6 n7 n8 n9 n10 n11 : Int) (s : ByteArray) : ∃ k, domesdaylaw07_PermTexts.f k n0 n1 kind mode n4 n5 n6 n7 n8 n9 n10 n11 s = some true := by
  refine Ev.rounds ?_
  unfold domesdaylaw07_PermTexts.f
  simp only [perm_awake, Option.bind_some, if_true]
  rw [mod_pos mode 4096 (by omega) (by omega)]
  have h0 : 0 ≤ mode % 4096 := by omega
  have h1 : mode % 4096 < 4096 := by omega
  simp only [text_eq _ _ _ _ _ _ _ _ _ _ _ _ _ h0 h1, kind_eq, Option.bind_some]
  refine Ev.bind (rtext_ev _ _ _ _ _ _ _ _ _ _ _ _ _ h0 h1) ?_
  simp only [if_true]
  refine Ev.bind (rkind_ev _ _ _ _ _ _ _ _ _ _ _ _ _) ?_
  simp only [if_true]
  refine Ev.bind (mark_ev _ _ _ _ _ _ _ _ _ _ _ _ _ h0 h1) ?_
  refine Ev.bind (rmark_ev _ _ _ _ _ _ _ _ _ _ _ _ _ h0 h1) ?_
  exact Ev.congr (fun k => by simp) (Ev.now _)
end Go.Proofs.Ytngcecmfgjgigaa.Pure
