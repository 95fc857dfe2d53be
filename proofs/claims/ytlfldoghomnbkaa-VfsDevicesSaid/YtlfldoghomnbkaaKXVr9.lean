import Derived.Test.YtlfldoghomnbkaaKXVr8
import Derived.Test.YtlfldoghomnbkaaKXVr7
import Derived.Test.YtlfldoghomnbkaaKXVr6
import Derived.Test.YtlfldoghomnbkaaKQVfsR2b
-- Texts of this seat, what the claim does not reach struck out by a program.
namespace Go.Proofs.Ytlfldoghomnbkaa.QVfs
open Go.RowKit Go.Proofs.YtlfldoghomnbkaaW.PrintWords Go.Proofs.YtlfldoghomnbkaaW.PrintLast Go.Proofs.YtlfldoghomnbkaaW.PrintMore
set_option linter.unusedVariables false
set_option linter.unusedSimpArgs false
structure Ref.Ok (R : Ref) (m : Nat) : Prop where
 N : R.N.length ≤ 300
 L : R.L.length ≤ m
 Cov : R.Cov.length = R.N.length
 Dead : R.Dead.length = R.N.length
 Above : R.Above.length = R.N.length
 Firsts : R.Firsts.length ≤ R.N.length
def Ref.cnt (R : Ref) (dev : Int) : Nat := (R.N.filter fun x => x.f0 == dev).length
def inoN (n : Node) (i : Int) : Node := ⟨n.f0, i, n.f2, n.f3, n.f4, n.f5, n.f6, n.f7, n.f8, n.f9, n.f10⟩
def Ref.add (R : Ref) (n : Node) (up : Int) : Ref := ⟨R.N ++ [inoN n (1 + R.cnt n.f0)], R.L, R.Cov ++ [-1], R.Dead ++ [false], R.Above ++ [up], R.Firsts⟩
def modeR (m : Int) : Int := m % 4096
def dirR (dev mode : Int) : Node := ⟨dev, 0, 2, modeR mode, 0, 0, 4096, 8, 0, ⟨0, 0, 0⟩, ⟨#[]⟩⟩
def Ref.firstOf (R : Ref) : Ref := ⟨R.N, R.L, R.Cov, R.Dead, R.Above, R.Firsts ++ [(R.N.length : Int)]⟩
def Ref.device (R : Ref) (mode up : Int) : Ref := R.firstOf.add (dirR (R.Firsts.length + 1) mode) up
def Ref.new : Ref := Ref.device ⟨[], [], [], [], [], []⟩ 493 0
theorem bits_mode (m : Int) : r6bits.f m = some (modeR m) := by
 unfold r6bits.f modeR wrap64
 have h4 : Int.tmod m 4096 = m % 4096 ∨ Int.tmod m 4096 = m % 4096 - 4096 := by
  rw [Int.tmod_eq_emod]
  split
  ·exact Or.inl (by omega)
  ·exact Or.inr rfl
 have h5 : (Int.tmod m 4096 + 4096 + 9223372036854775808) % 18446744073709551616 - 9223372036854775808 = Int.tmod m 4096 + 4096 := by omega
 rw [h5, Int.tmod_eq_emod_of_nonneg (by omega)]
 congr 1
 omega
theorem wrapS {i : Int} (h0 : 0 ≤ i) (h : i ≤ 10000000) : wrap64 (i + 1) = i + 1 := by unfold wrap64; omega
def Ref.cntTo (R : Ref) (dev : Int) (i : Nat) : Nat := ((R.N.take i).filter fun x => x.f0 == dev).length
theorem Ref.cntTo_le (R : Ref) (dev : Int) (i : Nat) : R.cntTo dev i ≤ i := Nat.le_trans (List.length_filter_le _ _) (List.length_take_le _ _)
theorem Ref.cntTo_succ (R : Ref) (dev : Int) (i : Nat) (h : i < R.N.length) : R.cntTo dev (i + 1) = R.cntTo dev i + if (zl_ R.N i).f0 = dev then 1 else 0 := by
 unfold Ref.cntTo
 rw [List.take_succ_eq_append_getElem h, List.filter_append, List.length_append]
 have e : zl_ R.N (i : Int) = R.N[i] := by unfold zl_; simp [h]
 rw [e]
 by_cases g : R.N[i].f0 = dev
 ·simp [g]
 ·have : (R.N[i].f0 == dev) = false := beq_eq_false_iff_ne.2 g
  simp [this, g]
theorem add_l (R : Ref) (n : Node) (up : Int) (hO : R.N.length ≤ 1000 ∧ R.Cov.length ≤ 1000 ∧ R.Dead.length ≤ 1000 ∧ R.Above.length ≤ 1000) : ∀ m i k : Nat, R.N.length - i ≤ m → i ≤ R.N.length → m + 1 ≤ k →
  r6FS_add.l0 k up (i : Int) R.N R.L R.Cov R.Dead R.Above R.Firsts n.f0 (1 + R.cntTo n.f0 i) n.f2 n.f3 n.f4 n.f5 n.f6 n.f7 n.f8 n.f9.f0 n.f9.f1 n.f9.f2 n.f10 = some ((R.add n up).N, (R.add n up).L, (R.add n up).Cov, (R.add n up).Dead, (R.add n up).Above, (R.add n up).Firsts) := by
 have hend : ∀ k, 1 ≤ k → r6FS_add.l0 k up ((R.N.length : Nat) : Int) R.N R.L R.Cov R.Dead R.Above R.Firsts n.f0 (1 + R.cntTo n.f0 R.N.length) n.f2 n.f3 n.f4 n.f5 n.f6 n.f7 n.f8 n.f9.f0 n.f9.f1 n.f9.f2 n.f10 = some ((R.add n up).N, (R.add n up).L, (R.add n up).Cov, (R.add n up).Dead, (R.add n up).Above, (R.add n up).Firsts) := by
  intro k hk
  obtain ⟨k, rfl⟩ : ∃ j, k = j + 1 := ⟨k - 1, by omega⟩
  rw [r6FS_add.l0, if_neg (by omega)]
  simp only [Option.bind_some, List.nil_append, List.length_nil, List.length_cons, Nat.zero_add]
  repeat rw [if_pos (by omega)]
  have e : R.cntTo n.f0 R.N.length = R.cnt n.f0 := by unfold Ref.cntTo Ref.cnt; rw [List.take_length]
  rw [e]
  rfl
 intro m
 induction m with
 | zero =>
  intro i k h1 h2 h3
  obtain rfl : i = R.N.length := by omega
  exact hend k (by omega)
 | succ m ih =>
  intro i k h1 h2 h3
  by_cases g : i = R.N.length
  ·subst g
   exact hend k (by omega)
  ·obtain ⟨k, rfl⟩ : ∃ j, k = j + 1 := ⟨k - 1, by omega⟩
   have hi : i < R.N.length := by omega
   have hs := R.cntTo_succ n.f0 i hi
   have hl := R.cntTo_le n.f0 i
   have := ih (i + 1) k (by omega) (by omega) (by omega)
   rw [r6FS_add.l0, if_pos (by omega), if_pos (by omega), wrapR (by omega)]
   by_cases ga : (zl_ R.N (i : Int)).f0 = n.f0
   ·rw [if_pos ga] at hs ⊢
    rw [wrapS (by omega) (by omega), show (1 + (R.cntTo n.f0 i : Int) + 1) = 1 + (R.cntTo n.f0 (i + 1) : Nat) by omega]
    exact this
   ·rw [if_neg ga] at hs ⊢
    rw [show (1 + (R.cntTo n.f0 i : Int)) = 1 + (R.cntTo n.f0 (i + 1) : Nat) by omega]
    exact this
theorem add_f (R : Ref) (n : Node) (up : Int) (hO : R.N.length ≤ 1000 ∧ R.Cov.length ≤ 1000 ∧ R.Dead.length ≤ 1000 ∧ R.Above.length ≤ 1000) :
  r6FS_add.f 1001 R.N R.L R.Cov R.Dead R.Above R.Firsts n.f0 n.f1 n.f2 n.f3 n.f4 n.f5 n.f6 n.f7 n.f8 n.f9.f0 n.f9.f1 n.f9.f2 n.f10 up = some ((R.add n up).N, (R.add n up).L, (R.add n up).Cov, (R.add n up).Dead, (R.add n up).Above, (R.add n up).Firsts) :=
 add_l R n up hO 1000 0 1001 (by omega) (by omega) (by omega)
theorem device_f (R : Ref) (mode up : Int) (hO : R.N.length ≤ 1000 ∧ R.Cov.length ≤ 1000 ∧ R.Dead.length ≤ 1000 ∧ R.Above.length ≤ 1000) (hF : R.Firsts.length ≤ 1000) :
  r6FS_device.f 1001 R.N R.L R.Cov R.Dead R.Above R.Firsts mode up = some ((R.device mode up).N, (R.device mode up).L, (R.device mode up).Cov, (R.device mode up).Dead, (R.device mode up).Above, (R.device mode up).Firsts) := by
 unfold r6FS_device.f
 simp only [Option.bind_some, List.nil_append, List.length_nil, List.length_cons, Nat.zero_add, bits_mode]
 repeat rw [if_pos (by omega)]
 have h := add_f R.firstOf (dirR (R.Firsts.length + 1) mode) up hO
 rw [show (((R.Firsts ++ [(R.N.length : Int)]).length : Nat) : Int) = (R.Firsts.length : Int) + 1 by rw [List.length_append]; rfl]
 rw [show r6FS_add.f 1001 R.N R.L R.Cov R.Dead R.Above (R.Firsts ++ [(R.N.length : Int)]) ((R.Firsts.length : Int) + 1) 0 2 (modeR mode) 0 0 4096 8 0 0 0 0 ⟨#[]⟩ up = _ from h]
 rfl
theorem RefAt.mk' {R : Ref} {w : World} {v0 v1 v2 v3 v4 v5 : Value} (h0 : ∃ A c, v0 = .slice A R.N.length c ∧ R.N.length ≤ c ∧ Kd.C k36 w A R.N.length R.N) (h1 : ∃ A c, v1 = .slice A R.L.length c ∧ R.L.length ≤ c ∧ Kd.C k81 w A R.L.length R.L)
  (h2 : ∃ A c, v2 = .slice A R.Cov.length c ∧ R.Cov.length ≤ c ∧ Kd.C (Kd.int .i64) w A R.Cov.length R.Cov) (h3 : ∃ A c, v3 = .slice A R.Dead.length c ∧ R.Dead.length ≤ c ∧ Kd.C Kd.bool w A R.Dead.length R.Dead)
  (h4 : ∃ A c, v4 = .slice A R.Above.length c ∧ R.Above.length ≤ c ∧ Kd.C (Kd.int .i64) w A R.Above.length R.Above) (h5 : ∃ A c, v5 = .slice A R.Firsts.length c ∧ R.Firsts.length ≤ c ∧ Kd.C (Kd.int .i64) w A R.Firsts.length R.Firsts) : RefAt R w #[v0, v1, v2, v3, v4, v5] := by
 obtain ⟨A0, c0, rfl, l0, k0⟩ := h0
 obtain ⟨A1, c1, rfl, l1, k1⟩ := h1
 obtain ⟨A2, c2, rfl, l2, k2⟩ := h2
 obtain ⟨A3, c3, rfl, l3, k3⟩ := h3
 obtain ⟨A4, c4, rfl, l4, k4⟩ := h4
 obtain ⟨A5, c5, rfl, l5, k5⟩ := h5
 exact ⟨A0, c0, A1, c1, A2, c2, A3, c3, A4, c4, A5, c5, rfl, ⟨k0, l0⟩, ⟨k1, l1⟩, ⟨k2, l2⟩, ⟨k3, l3⟩, ⟨k4, l4⟩, ⟨k5, l5⟩⟩
theorem V_row {α : Type} {d : Kd α} {e : Nat} {w : World} {base : Nat} {ok : Nat → Prop} {v : Value} {xs : List α} (h : Kd.V d e w base ok v xs) : ∃ A c, v = .slice A xs.length c ∧ xs.length ≤ c ∧ Kd.C d w A xs.length xs := by
 obtain ⟨A, c, hv, hl, hf⟩ := h
 exact ⟨A, c, hv, hl, Kd.F_now hf⟩
theorem new_f : r6New.f 1001 = some (Ref.new.N, Ref.new.L, Ref.new.Cov, Ref.new.Dead, Ref.new.Above, Ref.new.Firsts) := by
 unfold r6New.f
 have h := device_f ⟨[], [], [], [], [], []⟩ 493 0 ⟨by decide, by decide, by decide, by decide⟩ (by decide)
 rw [show r6FS_device.f 1001 [] [] [] [] [] [] 493 0 = _ from h]
 rfl
theorem Ref.any_hit (R : Ref) (a : Int) (s : ByteArray) : (R.L.any (fun x => x.f0 == a && x.f1.f0.toList == s.toList) = true) ↔ ∃ j, j < R.L.length ∧ R.hit a s j = true := by
 have key : ∀ j (h : j < R.L.length), R.hit a s j = ((R.L[j]).f0 == a && (R.L[j]).f1.f0.toList == s.toList) := by
  intro j h
  unfold Ref.hit rd_T81
  simp only [Int.toNat_natCast, List.getD_eq_getElem?_getD, List.getElem?_eq_getElem h, Option.getD_some]
  rw [Bool.eq_iff_iff]
  simp
 rw [List.any_eq_true]
 constructor
 ·rintro ⟨x, hx, he⟩
  obtain ⟨j, hj, rfl⟩ := List.getElem_of_mem hx
  exact ⟨j, hj, by rw [key j hj]; exact he⟩
 ·rintro ⟨j, hj, he⟩
  exact ⟨_, List.getElem_mem hj, by rw [← key j hj]; exact he⟩
theorem anyZ (s : ByteArray) : (s.data.toList.any (· == 0) = true) ↔ ∃ j, ∃ h : j < s.size, s[j] = 0 := by
 rw [List.any_eq_true]
 constructor
 ·rintro ⟨x, hx, he⟩
  obtain ⟨j, hj, rfl⟩ := List.getElem_of_mem hx
  exact ⟨j, by simpa using hj, by simpa [ByteArray.getElem_eq_getElem_data] using he⟩
 ·rintro ⟨j, hj, he⟩
  refine ⟨s[j], ?_, by rw [he]; rfl⟩
  rw [ByteArray.getElem_eq_getElem_data]
  simp
set_option maxHeartbeats 4000000 in
set_option maxRecDepth 100000 in
theorem wrong_bad (R : Ref) (c : Chg) (w : World) (vs : Array Value) (h : RefAt R w vs) (hk : c.f0 < 0 ∨ 8 < c.f0) :
  Calls Try.prog 31 #[.agg vs, .agg (encC c).toArray] w fun e w' => e = .returned (.int .i64 1) ∧ Below w.heap.size w w' := by
 obtain ⟨x0, x1, x2, x3, x4, x5, x6, x7⟩ := c
 simp only at hk
 obtain ⟨A0, c0, A1, c1, A2, c2, A3, c3, A4, c4, A5, c5, rfl, _⟩ := h
 unfold encC
 by_cases g : x0 < 0
 ·have d1 : decide (x0 < 0) = true := y4_ g
  clear hk g
  go_enter Try.func31, Try.ntmps31
  go_wp2
  go_ret
  exact ⟨rfl, ((y6_ _ _).alloc (y2_ _) _).alloc (by simp) _⟩
 ·have d1 : decide (x0 < 0) = false := y3_ g
  have d2 : decide (8 < x0) = true := y4_ (by omega)
  clear hk g
  go_enter Try.func31, Try.ntmps31
  go_wp2
  go_ret
  exact ⟨rfl, ((y6_ _ _).alloc (y2_ _) _).alloc (by simp) _⟩
theorem zu_ (R : Ref) (c : Chg) (w : World) (vs : Array Value) (m : Nat) (h : RefAt R w vs) (hO : R.Ok m) (hm : m ≤ 1000000) (h3 : c.f3.size ≤ 1000000) (h4 : c.f4.size ≤ 1000000) :
  Calls Try.prog 31 #[.agg vs, .agg (encC c).toArray] w fun e w' => e = .returned (.int .i64 (R.wrongE c)) ∧ Below w.heap.size w w' := by
 have hN := hO.N
 have hL : R.L.length ≤ 1000000 := Nat.le_trans hO.L hm
 have hF : R.Firsts.length ≤ 1000 := Nat.le_trans hO.Firsts (by omega)
 have go_ : ∀ {x : Int}, R.wrongE c = x → (Calls Try.prog 31 #[.agg vs, .agg (encC c).toArray] w fun e w' => e = .returned (.int .i64 x) ∧ Below w.heap.size w w') → Calls Try.prog 31 #[.agg vs, .agg (encC c).toArray] w fun e w' => e = .returned (.int .i64 (R.wrongE c)) ∧ Below w.heap.size w w' := fun e hc => by rw [e]; exact hc
 by_cases hb : c.f0 < 0 ∨ 8 < c.f0
 ·exact go_ (by unfold Ref.wrongE; rw [if_pos hb]) (wrong_bad R c w vs h hb)
 by_cases k4 : c.f0 < 4
 ·-- an entry
  have pl : ∀ {x : Int}, x ≠ 0 → R.placeE c = x → R.wrongE c = x := fun {x} hx e => by unfold Ref.wrongE; rw [if_neg hb, if_pos ⟨k4, by rw [e]; exact hx⟩, e]
  have hk : 0 ≤ c.f0 ∧ c.f0 < 4 := by omega
  cases h1 : R.has c.f1 with
  | false => exact go_ (pl (by decide) (by unfold Ref.placeE; rw [if_neg (by rw [h1]; decide)])) (wrong_l2 R c w vs h hk h1)
  | true =>
  by_cases hkd : (R.n c.f1).f2 = 2
  case neg => exact go_ (pl (by decide) (by unfold Ref.placeE; rw [if_pos h1, if_neg hkd])) (wrong_l3 R c w vs h hk h1 hkd)
  cases hg : goodB c.f3 with
  | false => exact go_ (pl (by decide) (by unfold Ref.placeE; rw [if_pos h1, if_pos hkd, if_neg (by rw [hg]; decide)])) (wrong_l1 R c w vs h hk h1 hkd h3 hg)
  | true =>
  by_cases ha : R.L.any (fun x => x.f0 == c.f1 && x.f1.f0.toList == c.f3.toList) = true
  ·exact go_ (pl (by decide) (by unfold Ref.placeE; rw [if_pos h1, if_pos hkd, if_pos hg, if_pos ha])) (wrong_l4 R c w vs h hk h1 hkd h3 hg hL ((R.any_hit _ _).1 ha))
  have hno : ∀ j, j < R.L.length → R.hit c.f1 c.f3 j = false := fun j hj => by
   cases e : R.hit c.f1 c.f3 j with
   | false => rfl
   | true => exact absurd ((R.any_hit _ _).2 ⟨j, hj, e⟩) ha
  have hp : R.placeE c = 0 := by unfold Ref.placeE; rw [if_pos h1, if_pos hkd, if_pos hg, if_neg ha]
  have rest : ∀ {x : Int}, R.restE c = x → R.wrongE c = x := fun {x} e => by unfold Ref.wrongE; rw [if_neg hb, if_neg (fun q => q.2 hp), e]
  have h47 : ¬ ((4 ≤ c.f0 ∨ c.f0 = 2) ∧ R.has c.f2 = false) ↔ (c.f0 = 2 → R.has c.f2 = true) := by
   constructor
   ·intro q k2
    cases e : R.has c.f2 with
    | true => rfl
    | false => exact absurd ⟨Or.inr k2, e⟩ q
   ·rintro q ⟨q1, q2⟩
    rw [q (by omega)] at q2
    cases q2
  have hx : c.f0 = 0 ∨ c.f0 = 1 ∨ c.f0 = 2 ∨ c.f0 = 3 := by omega
  rcases hx with k | k | k | k
  ·have e1 : ¬ ((4 ≤ c.f0 ∨ c.f0 = 2) ∧ R.has c.f2 = false) := h47.2 (fun q => by omega)
   by_cases hm : 300 ≤ R.N.length
   ·exact go_ (rest (by unfold Ref.restE; rw [if_neg e1, if_neg (by omega), if_neg (by omega), if_neg (by omega), if_pos ⟨by omega, hm⟩])) (wrong_0m R c w vs h k h1 hkd h3 hg hL hno hm)
   ·exact go_ (rest (by unfold Ref.restE; rw [if_neg e1, if_neg (by omega), if_neg (by omega), if_neg (by omega), if_neg (by omega)])) (wrong_0 R c w vs h k h1 hkd h3 hg hL hno (by omega))
  ·have e1 : ¬ ((4 ≤ c.f0 ∨ c.f0 = 2) ∧ R.has c.f2 = false) := h47.2 (fun q => by omega)
   by_cases h7 : c.f7 < 0
   ·exact go_ (rest (by unfold Ref.restE; rw [if_neg e1, if_neg (by omega), if_pos (Or.inl ⟨k, h7⟩)])) (wrong_1n R c w vs h k h1 hkd h3 hg hL hno h7)
   by_cases hm : 300 ≤ R.N.length
   ·exact go_ (rest (by unfold Ref.restE; rw [if_neg e1, if_neg (by omega), if_neg (by omega), if_neg (by omega), if_pos ⟨by omega, hm⟩])) (wrong_1m R c w vs h k h1 hkd h3 hg hL hno hm (by omega))
   ·exact go_ (rest (by unfold Ref.restE; rw [if_neg e1, if_neg (by omega), if_neg (by omega), if_neg (by omega), if_neg (by omega)])) (wrong_1 R c w vs h k h1 hkd h3 hg hL hno (by omega) (by omega))
  ·cases h2 : R.has c.f2 with
   | false => exact go_ (rest (by unfold Ref.restE; rw [if_pos ⟨Or.inr k, h2⟩])) (wrong_2n R c w vs h k h1 hkd h3 hg hL hno h2)
   | true =>
   have e1 : ¬ ((4 ≤ c.f0 ∨ c.f0 = 2) ∧ R.has c.f2 = false) := h47.2 (fun _ => h2)
   by_cases hk2 : (R.n c.f2).f2 = 2
   ·exact go_ (rest (by unfold Ref.restE; rw [if_neg e1, if_neg (by omega), if_pos (Or.inr (Or.inl ⟨k, Or.inl hk2⟩))])) (wrong_2d R c w vs h k h1 hkd h3 hg hL hno h2 hk2)
   by_cases hdv : (R.n c.f2).f0 = (R.n c.f1).f0
   ·exact go_ (rest (by unfold Ref.restE; rw [if_neg e1, if_neg (by omega), if_neg (by omega), if_neg (by omega), if_neg (by omega)])) (wrong_2 R c w vs h k h1 hkd h3 hg hL hno h2 hk2 hdv)
   ·exact go_ (rest (by unfold Ref.restE; rw [if_neg e1, if_neg (by omega), if_pos (Or.inr (Or.inl ⟨k, Or.inr hdv⟩))])) (wrong_2v R c w vs h k h1 hkd h3 hg hL hno h2 hk2 hdv)
  ·have e1 : ¬ ((4 ≤ c.f0 ∨ c.f0 = 2) ∧ R.has c.f2 = false) := h47.2 (fun q => by omega)
   by_cases hz : c.f4.data.toList.any (· == 0) = true
   ·exact go_ (rest (by unfold Ref.restE; rw [if_neg e1, if_neg (by omega), if_neg (by omega), if_pos ⟨k, Or.inl hz⟩])) (wrong_3b R c w vs h k h1 hkd h3 hg hL hno ((anyZ _).1 hz) h4)
   have hnz : ∀ j (h : j < c.f4.size), c.f4[j] ≠ 0 := fun j hj e => hz ((anyZ _).2 ⟨j, hj, e⟩)
   by_cases he : c.f4.toList = []
   ·exact go_ (rest (by unfold Ref.restE; rw [if_neg e1, if_neg (by omega), if_neg (by omega), if_pos ⟨k, Or.inr (Or.inl he)⟩])) (wrong_3e R c w vs h k h1 hkd h3 hg hL hno hnz h4 he)
   by_cases hl : 4096 < c.f4.size
   ·exact go_ (rest (by unfold Ref.restE; rw [if_neg e1, if_neg (by omega), if_neg (by omega), if_pos ⟨k, Or.inr (Or.inr (by omega))⟩])) (wrong_3l R c w vs h k h1 hkd h3 hg hL hno hnz h4 he hl)
   have e4 : ¬ (c.f0 = 3 ∧ (c.f4.data.toList.any (· == 0) = true ∨ c.f4.toList = [] ∨ (4096 : Int) < c.f4.size)) := by
    rintro ⟨_, q | q | q⟩
    ·exact hz q
    ·exact he q
    ·omega
   by_cases hm : 300 ≤ R.N.length
   ·exact go_ (rest (by unfold Ref.restE; rw [if_neg e1, if_neg (by omega), if_neg (by omega), if_neg e4, if_pos ⟨by omega, hm⟩])) (wrong_3m R c w vs h k h1 hkd h3 hg hL hno hnz h4 he (by omega) hm)
   ·exact go_ (rest (by unfold Ref.restE; rw [if_neg e1, if_neg (by omega), if_neg (by omega), if_neg e4, if_neg (by omega)])) (wrong_3 R c w vs h k h1 hkd h3 hg hL hno hnz h4 he (by omega) (by omega))
 ·-- a node
  have rest : ∀ {x : Int}, R.restE c = x → R.wrongE c = x := fun {x} e => by unfold Ref.wrongE; rw [if_neg hb, if_neg (fun q => k4 q.1), e]
  cases hh : R.has c.f2 with
  | false =>
   have e1 : R.restE c = 2 := by unfold Ref.restE; rw [if_pos ⟨Or.inl (by omega), hh⟩]
   have hx : c.f0 = 4 ∨ c.f0 = 5 ∨ c.f0 = 6 ∨ c.f0 = 7 ∨ c.f0 = 8 := by omega
   rcases hx with k | k | k | k | k
   ·exact go_ (rest e1) (wrong_none4 R c w vs h k hh)
   ·exact go_ (rest e1) (wrong_none5 R c w vs h k hh)
   ·exact go_ (rest e1) (wrong_none6 R c w vs h k hh)
   ·exact go_ (rest e1) (wrong_none7 R c w vs h k hh)
   ·exact go_ (rest e1) (wrong_none8 R c w vs h k hh)
  | true =>
   have e1 : ¬ ((4 ≤ c.f0 ∨ c.f0 = 2) ∧ R.has c.f2 = false) := fun q => by rw [hh] at q; cases q.2
   have hx : c.f0 = 4 ∨ c.f0 = 5 ∨ c.f0 = 6 ∨ c.f0 = 7 ∨ c.f0 = 8 := by omega
   rcases hx with k | k | k | k | k
   ·exact go_ (rest (by unfold Ref.restE; rw [if_neg e1, if_neg (by omega), if_neg (by omega), if_neg (by omega), if_neg (by omega)])) (wrong_ok4 R c w vs h k hh)
   ·exact go_ (rest (by unfold Ref.restE; rw [if_neg e1, if_neg (by omega), if_neg (by omega), if_neg (by omega), if_neg (by omega)])) (wrong_ok5 R c w vs h k hh)
   ·by_cases ha : c.f5 < 0
    ·exact go_ (rest (by unfold Ref.restE; rw [if_neg e1, if_neg (by omega), if_pos (Or.inr (Or.inr (Or.inl ⟨k, Or.inl ha⟩)))])) (wrong_t6a R c w vs h k hh ha)
    by_cases hb2 : 2 < c.f5
    ·exact go_ (rest (by unfold Ref.restE; rw [if_neg e1, if_neg (by omega), if_pos (Or.inr (Or.inr (Or.inl ⟨k, Or.inr hb2⟩)))])) (wrong_t6b R c w vs h k hh hb2)
    exact go_ (rest (by unfold Ref.restE; rw [if_neg e1, if_neg (by omega), if_neg (by omega), if_neg (by omega), if_neg (by omega)])) (wrong_t6 R c w vs h k hh (by omega))
   ·by_cases hkd : (R.n c.f2).f2 = 2
    case neg => exact go_ (rest (by unfold Ref.restE; rw [if_neg e1, if_pos ⟨k, hkd⟩])) (wrong_m3 R c w vs h k hh hO.Cov hkd)
    by_cases hcv : 0 ≤ rd R.Cov c.f2
    ·exact go_ (rest (by unfold Ref.restE; rw [if_neg e1, if_neg (by omega), if_pos (Or.inr (Or.inr (Or.inr ⟨k, Or.inl hcv⟩)))])) (wrong_m1 R c w vs h k hh hO.Cov hkd hcv)
    cases hf : R.Firsts.contains c.f2 with
    | true => exact go_ (rest (by unfold Ref.restE; rw [if_neg e1, if_neg (by omega), if_pos (Or.inr (Or.inr (Or.inr ⟨k, Or.inr hf⟩)))])) (wrong_mf R c w vs h k hh hO.Cov hkd (by omega) hf hF)
    | false =>
    have e3 : ¬ ((c.f0 = 1 ∧ c.f7 < 0) ∨ (c.f0 = 2 ∧ ((R.n c.f2).f2 = 2 ∨ (R.n c.f2).f0 ≠ (R.n c.f1).f0)) ∨ (c.f0 = 6 ∧ (c.f5 < 0 ∨ 2 < c.f5)) ∨ (c.f0 = 7 ∧ (0 ≤ rd R.Cov c.f2 ∨ R.Firsts.contains c.f2 = true))) := by
     rintro (q | q | q | ⟨_, q | q⟩)
     ·omega
     ·omega
     ·omega
     ·exact hcv q
     ·rw [hf] at q; cases q
    by_cases hm : 300 ≤ R.N.length
    ·exact go_ (rest (by unfold Ref.restE; rw [if_neg e1, if_neg (by omega), if_neg e3, if_neg (by omega), if_pos ⟨by omega, hm⟩])) (wrong_many7 R c w vs h k hh hO.Cov hkd (by omega) hf hF hm)
    ·exact go_ (rest (by unfold Ref.restE; rw [if_neg e1, if_neg (by omega), if_neg e3, if_neg (by omega), if_neg (by omega)])) (wrong_ok7 R c w vs h k hh hO.Cov hkd (by omega) hf hF (by omega))
   ·exact go_ (rest (by unfold Ref.restE; rw [if_neg e1, if_neg (by omega), if_neg (by omega), if_neg (by omega), if_neg (by omega)])) (wrong_ok8 R c w vs h k hh)
end Go.Proofs.Ytlfldoghomnbkaa.QVfs
