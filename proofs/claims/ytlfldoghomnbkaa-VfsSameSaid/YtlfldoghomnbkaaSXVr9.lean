import Derived.Test.YtlfldoghomnbkaaSXVr8
import Derived.Test.YtlfldoghomnbkaaSXVr7
import Derived.Test.YtlfldoghomnbkaaSR5
import Derived.Test.YtlfldoghomnbkaaSR2
import Derived.Test.YtlfldoghomnbkaaSXVq0
-- Texts of this seat, what the claim does not reach struck out by a program.
namespace Go.Proofs.Ytlfldoghomnbkaa.QVfs
open Go.RowKit Go.Proofs.YtlfldoghomnbkaaW.PrintWords Go.Proofs.YtlfldoghomnbkaaW.PrintLast Go.Proofs.YtlfldoghomnbkaaW.PrintMore
set_option linter.unusedVariables false
set_option linter.unusedSimpArgs false
theorem Ref.any_hit (R : Ref) (a : Int) (s : ByteArray) : (R.L.any (fun x => x.f0 == a && x.f1.f0.toList == s.toList) = true) ↔ ∃ j, j < R.L.length ∧ R.hit a s j = true := by
 have key : ∀ j (h : j < R.L.length), R.hit a s j = ((R.L[j]).f0 == a && (R.L[j]).f1.f0.toList == s.toList) := by
  intro j h
  unfold Ref.hit rd_T81
  simp only [Int.toNat_natCast, List.getD_eq_getElem?_getD, List.getElem?_eq_getElem h, Option.getD_some]
  rw [Bool.eq_iff_iff]
  simp
 rw [List.any_eq_true]
 constructor
 ·rintro ⟨x, hx, he⟩
  obtain ⟨j, hj, rfl⟩ := List.getElem_of_mem hx
  exact ⟨j, hj, by rw [key j hj]; exact he⟩
 ·rintro ⟨j, hj, he⟩
  exact ⟨_, List.getElem_mem hj, by rw [← key j hj]; exact he⟩
theorem anyZ (s : ByteArray) : (s.data.toList.any (· == 0) = true) ↔ ∃ j, ∃ h : j < s.size, s[j] = 0 := by
 rw [List.any_eq_true]
 constructor
 ·rintro ⟨x, hx, he⟩
  obtain ⟨j, hj, rfl⟩ := List.getElem_of_mem hx
  exact ⟨j, by simpa using hj, by simpa [ByteArray.getElem_eq_getElem_data] using he⟩
 ·rintro ⟨j, hj, he⟩
  refine ⟨s[j], ?_, by rw [he]; rfl⟩
  rw [ByteArray.getElem_eq_getElem_data]
  simp
set_option maxHeartbeats 4000000 in
set_option maxRecDepth 100000 in
theorem wrong_bad (R : Ref) (c : Chg) (w : World) (vs : Array Value) (h : RefAt R w vs) (hk : c.f0 < 0 ∨ 8 < c.f0) :
  Calls Try.prog 31 #[.agg vs, .agg (encC c).toArray] w fun e w' => e = .returned (.int .i64 1) ∧ Below w.heap.size w w' := by
 obtain ⟨x0, x1, x2, x3, x4, x5, x6, x7⟩ := c
 simp only at hk
 obtain ⟨A0, c0, A1, c1, A2, c2, A3, c3, A4, c4, A5, c5, rfl, _⟩ := h
 unfold encC
 by_cases g : x0 < 0
 ·have d1 : decide (x0 < 0) = true := decide_eq_true g
  clear hk g
  go_enter Try.func31, Try.ntmps31
  go_wp2
  go_ret
  exact ⟨rfl, ((Below.refl _ _).alloc (Nat.le_refl _) _).alloc (by simp) _⟩
 ·have d1 : decide (x0 < 0) = false := decide_eq_false g
  have d2 : decide (8 < x0) = true := decide_eq_true (by omega)
  clear hk g
  go_enter Try.func31, Try.ntmps31
  go_wp2
  go_ret
  exact ⟨rfl, ((Below.refl _ _).alloc (Nat.le_refl _) _).alloc (by simp) _⟩
theorem refWrong_calls (R : Ref) (c : Chg) (w : World) (vs : Array Value) (m : Nat) (h : RefAt R w vs) (hO : R.Ok m) (hm : m ≤ 1000000) (h3 : c.f3.size ≤ 1000000) (h4 : c.f4.size ≤ 1000000) :
  Calls Try.prog 31 #[.agg vs, .agg (encC c).toArray] w fun e w' => e = .returned (.int .i64 (R.wrongE c)) ∧ Below w.heap.size w w' := by
 have hN := hO.N
 have hL : R.L.length ≤ 1000000 := Nat.le_trans hO.L hm
 have hF : R.Firsts.length ≤ 1000 := Nat.le_trans hO.Firsts (by omega)
 have go_ : ∀ {x : Int}, R.wrongE c = x → (Calls Try.prog 31 #[.agg vs, .agg (encC c).toArray] w fun e w' => e = .returned (.int .i64 x) ∧ Below w.heap.size w w') → Calls Try.prog 31 #[.agg vs, .agg (encC c).toArray] w fun e w' => e = .returned (.int .i64 (R.wrongE c)) ∧ Below w.heap.size w w' := fun e hc => by rw [e]; exact hc
 by_cases hb : c.f0 < 0 ∨ 8 < c.f0
 ·exact go_ (by unfold Ref.wrongE; rw [if_pos hb]) (wrong_bad R c w vs h hb)
 by_cases k4 : c.f0 < 4
 ·-- an entry
  have pl : ∀ {x : Int}, x ≠ 0 → R.placeE c = x → R.wrongE c = x := fun {x} hx e => by unfold Ref.wrongE; rw [if_neg hb, if_pos ⟨k4, by rw [e]; exact hx⟩, e]
  have hk : 0 ≤ c.f0 ∧ c.f0 < 4 := by omega
  cases h1 : R.has c.f1 with
  | false => exact go_ (pl (by decide) (by unfold Ref.placeE; rw [if_neg (by rw [h1]; decide)])) (wrong_l2 R c w vs h hk h1)
  | true =>
  by_cases hkd : (R.n c.f1).f2 = 2
  case neg => exact go_ (pl (by decide) (by unfold Ref.placeE; rw [if_pos h1, if_neg hkd])) (wrong_l3 R c w vs h hk h1 hkd)
  cases hg : goodB c.f3 with
  | false => exact go_ (pl (by decide) (by unfold Ref.placeE; rw [if_pos h1, if_pos hkd, if_neg (by rw [hg]; decide)])) (wrong_l1 R c w vs h hk h1 hkd h3 hg)
  | true =>
  by_cases ha : R.L.any (fun x => x.f0 == c.f1 && x.f1.f0.toList == c.f3.toList) = true
  ·exact go_ (pl (by decide) (by unfold Ref.placeE; rw [if_pos h1, if_pos hkd, if_pos hg, if_pos ha])) (wrong_l4 R c w vs h hk h1 hkd h3 hg hL ((R.any_hit _ _).1 ha))
  have hno : ∀ j, j < R.L.length → R.hit c.f1 c.f3 j = false := fun j hj => by
   cases e : R.hit c.f1 c.f3 j with
   | false => rfl
   | true => exact absurd ((R.any_hit _ _).2 ⟨j, hj, e⟩) ha
  have hp : R.placeE c = 0 := by unfold Ref.placeE; rw [if_pos h1, if_pos hkd, if_pos hg, if_neg ha]
  have rest : ∀ {x : Int}, R.restE c = x → R.wrongE c = x := fun {x} e => by unfold Ref.wrongE; rw [if_neg hb, if_neg (fun q => q.2 hp), e]
  have h47 : ¬ ((4 ≤ c.f0 ∨ c.f0 = 2) ∧ R.has c.f2 = false) ↔ (c.f0 = 2 → R.has c.f2 = true) := by
   constructor
   ·intro q k2
    cases e : R.has c.f2 with
    | true => rfl
    | false => exact absurd ⟨Or.inr k2, e⟩ q
   ·rintro q ⟨q1, q2⟩
    rw [q (by omega)] at q2
    cases q2
  have hx : c.f0 = 0 ∨ c.f0 = 1 ∨ c.f0 = 2 ∨ c.f0 = 3 := by omega
  rcases hx with k | k | k | k
  ·have e1 : ¬ ((4 ≤ c.f0 ∨ c.f0 = 2) ∧ R.has c.f2 = false) := h47.2 (fun q => by omega)
   by_cases hm : 300 ≤ R.N.length
   ·exact go_ (rest (by unfold Ref.restE; rw [if_neg e1, if_neg (by omega), if_neg (by omega), if_neg (by omega), if_pos ⟨by omega, hm⟩])) (wrong_0m R c w vs h k h1 hkd h3 hg hL hno hm)
   ·exact go_ (rest (by unfold Ref.restE; rw [if_neg e1, if_neg (by omega), if_neg (by omega), if_neg (by omega), if_neg (by omega)])) (wrong_0 R c w vs h k h1 hkd h3 hg hL hno (by omega))
  ·have e1 : ¬ ((4 ≤ c.f0 ∨ c.f0 = 2) ∧ R.has c.f2 = false) := h47.2 (fun q => by omega)
   by_cases h7 : c.f7 < 0
   ·exact go_ (rest (by unfold Ref.restE; rw [if_neg e1, if_neg (by omega), if_pos (Or.inl ⟨k, h7⟩)])) (wrong_1n R c w vs h k h1 hkd h3 hg hL hno h7)
   by_cases hm : 300 ≤ R.N.length
   ·exact go_ (rest (by unfold Ref.restE; rw [if_neg e1, if_neg (by omega), if_neg (by omega), if_neg (by omega), if_pos ⟨by omega, hm⟩])) (wrong_1m R c w vs h k h1 hkd h3 hg hL hno hm (by omega))
   ·exact go_ (rest (by unfold Ref.restE; rw [if_neg e1, if_neg (by omega), if_neg (by omega), if_neg (by omega), if_neg (by omega)])) (wrong_1 R c w vs h k h1 hkd h3 hg hL hno (by omega) (by omega))
  ·cases h2 : R.has c.f2 with
   | false => exact go_ (rest (by unfold Ref.restE; rw [if_pos ⟨Or.inr k, h2⟩])) (wrong_2n R c w vs h k h1 hkd h3 hg hL hno h2)
   | true =>
   have e1 : ¬ ((4 ≤ c.f0 ∨ c.f0 = 2) ∧ R.has c.f2 = false) := h47.2 (fun _ => h2)
   by_cases hk2 : (R.n c.f2).f2 = 2
   ·exact go_ (rest (by unfold Ref.restE; rw [if_neg e1, if_neg (by omega), if_pos (Or.inr (Or.inl ⟨k, Or.inl hk2⟩))])) (wrong_2d R c w vs h k h1 hkd h3 hg hL hno h2 hk2)
   by_cases hdv : (R.n c.f2).f0 = (R.n c.f1).f0
   ·exact go_ (rest (by unfold Ref.restE; rw [if_neg e1, if_neg (by omega), if_neg (by omega), if_neg (by omega), if_neg (by omega)])) (wrong_2 R c w vs h k h1 hkd h3 hg hL hno h2 hk2 hdv)
   ·exact go_ (rest (by unfold Ref.restE; rw [if_neg e1, if_neg (by omega), if_pos (Or.inr (Or.inl ⟨k, Or.inr hdv⟩))])) (wrong_2v R c w vs h k h1 hkd h3 hg hL hno h2 hk2 hdv)
  ·have e1 : ¬ ((4 ≤ c.f0 ∨ c.f0 = 2) ∧ R.has c.f2 = false) := h47.2 (fun q => by omega)
   by_cases hz : c.f4.data.toList.any (· == 0) = true
   ·exact go_ (rest (by unfold Ref.restE; rw [if_neg e1, if_neg (by omega), if_neg (by omega), if_pos ⟨k, Or.inl hz⟩])) (wrong_3b R c w vs h k h1 hkd h3 hg hL hno ((anyZ _).1 hz) h4)
   have hnz : ∀ j (h : j < c.f4.size), c.f4[j] ≠ 0 := fun j hj e => hz ((anyZ _).2 ⟨j, hj, e⟩)
   by_cases he : c.f4.toList = []
   ·exact go_ (rest (by unfold Ref.restE; rw [if_neg e1, if_neg (by omega), if_neg (by omega), if_pos ⟨k, Or.inr (Or.inl he)⟩])) (wrong_3e R c w vs h k h1 hkd h3 hg hL hno hnz h4 he)
   by_cases hl : 4096 < c.f4.size
   ·exact go_ (rest (by unfold Ref.restE; rw [if_neg e1, if_neg (by omega), if_neg (by omega), if_pos ⟨k, Or.inr (Or.inr (by omega))⟩])) (wrong_3l R c w vs h k h1 hkd h3 hg hL hno hnz h4 he hl)
   have e4 : ¬ (c.f0 = 3 ∧ (c.f4.data.toList.any (· == 0) = true ∨ c.f4.toList = [] ∨ (4096 : Int) < c.f4.size)) := by
    rintro ⟨_, q | q | q⟩
    ·exact hz q
    ·exact he q
    ·omega
   by_cases hm : 300 ≤ R.N.length
   ·exact go_ (rest (by unfold Ref.restE; rw [if_neg e1, if_neg (by omega), if_neg (by omega), if_neg e4, if_pos ⟨by omega, hm⟩])) (wrong_3m R c w vs h k h1 hkd h3 hg hL hno hnz h4 he (by omega) hm)
   ·exact go_ (rest (by unfold Ref.restE; rw [if_neg e1, if_neg (by omega), if_neg (by omega), if_neg e4, if_neg (by omega)])) (wrong_3 R c w vs h k h1 hkd h3 hg hL hno hnz h4 he (by omega) (by omega))
 ·-- a node
  have rest : ∀ {x : Int}, R.restE c = x → R.wrongE c = x := fun {x} e => by unfold Ref.wrongE; rw [if_neg hb, if_neg (fun q => k4 q.1), e]
  cases hh : R.has c.f2 with
  | false =>
   have e1 : R.restE c = 2 := by unfold Ref.restE; rw [if_pos ⟨Or.inl (by omega), hh⟩]
   have hx : c.f0 = 4 ∨ c.f0 = 5 ∨ c.f0 = 6 ∨ c.f0 = 7 ∨ c.f0 = 8 := by omega
   rcases hx with k | k | k | k | k
   ·exact go_ (rest e1) (wrong_none4 R c w vs h k hh)
   ·exact go_ (rest e1) (wrong_none5 R c w vs h k hh)
   ·exact go_ (rest e1) (wrong_none6 R c w vs h k hh)
   ·exact go_ (rest e1) (wrong_none7 R c w vs h k hh)
   ·exact go_ (rest e1) (wrong_none8 R c w vs h k hh)
  | true =>
   have e1 : ¬ ((4 ≤ c.f0 ∨ c.f0 = 2) ∧ R.has c.f2 = false) := fun q => by rw [hh] at q; cases q.2
   have hx : c.f0 = 4 ∨ c.f0 = 5 ∨ c.f0 = 6 ∨ c.f0 = 7 ∨ c.f0 = 8 := by omega
   rcases hx with k | k | k | k | k
   ·exact go_ (rest (by unfold Ref.restE; rw [if_neg e1, if_neg (by omega), if_neg (by omega), if_neg (by omega), if_neg (by omega)])) (wrong_ok4 R c w vs h k hh)
   ·exact go_ (rest (by unfold Ref.restE; rw [if_neg e1, if_neg (by omega), if_neg (by omega), if_neg (by omega), if_neg (by omega)])) (wrong_ok5 R c w vs h k hh)
   ·by_cases ha : c.f5 < 0
    ·exact go_ (rest (by unfold Ref.restE; rw [if_neg e1, if_neg (by omega), if_pos (Or.inr (Or.inr (Or.inl ⟨k, Or.inl ha⟩)))])) (wrong_t6a R c w vs h k hh ha)
    by_cases hb2 : 2 < c.f5
    ·exact go_ (rest (by unfold Ref.restE; rw [if_neg e1, if_neg (by omega), if_pos (Or.inr (Or.inr (Or.inl ⟨k, Or.inr hb2⟩)))])) (wrong_t6b R c w vs h k hh hb2)
    exact go_ (rest (by unfold Ref.restE; rw [if_neg e1, if_neg (by omega), if_neg (by omega), if_neg (by omega), if_neg (by omega)])) (wrong_t6 R c w vs h k hh (by omega))
   ·by_cases hkd : (R.n c.f2).f2 = 2
    case neg => exact go_ (rest (by unfold Ref.restE; rw [if_neg e1, if_pos ⟨k, hkd⟩])) (wrong_m3 R c w vs h k hh hO.Cov hkd)
    by_cases hcv : 0 ≤ rd R.Cov c.f2
    ·exact go_ (rest (by unfold Ref.restE; rw [if_neg e1, if_neg (by omega), if_pos (Or.inr (Or.inr (Or.inr ⟨k, Or.inl hcv⟩)))])) (wrong_m1 R c w vs h k hh hO.Cov hkd hcv)
    cases hf : R.Firsts.contains c.f2 with
    | true => exact go_ (rest (by unfold Ref.restE; rw [if_neg e1, if_neg (by omega), if_pos (Or.inr (Or.inr (Or.inr ⟨k, Or.inr hf⟩)))])) (wrong_mf R c w vs h k hh hO.Cov hkd (by omega) hf hF)
    | false =>
    have e3 : ¬ ((c.f0 = 1 ∧ c.f7 < 0) ∨ (c.f0 = 2 ∧ ((R.n c.f2).f2 = 2 ∨ (R.n c.f2).f0 ≠ (R.n c.f1).f0)) ∨ (c.f0 = 6 ∧ (c.f5 < 0 ∨ 2 < c.f5)) ∨ (c.f0 = 7 ∧ (0 ≤ rd R.Cov c.f2 ∨ R.Firsts.contains c.f2 = true))) := by
     rintro (q | q | q | ⟨_, q | q⟩)
     ·omega
     ·omega
     ·omega
     ·exact hcv q
     ·rw [hf] at q; cases q
    by_cases hm : 300 ≤ R.N.length
    ·exact go_ (rest (by unfold Ref.restE; rw [if_neg e1, if_neg (by omega), if_neg e3, if_neg (by omega), if_pos ⟨by omega, hm⟩])) (wrong_many7 R c w vs h k hh hO.Cov hkd (by omega) hf hF hm)
    ·exact go_ (rest (by unfold Ref.restE; rw [if_neg e1, if_neg (by omega), if_neg e3, if_neg (by omega), if_neg (by omega)])) (wrong_ok7 R c w vs h k hh hO.Cov hkd (by omega) hf hF (by omega))
   ·exact go_ (rest (by unfold Ref.restE; rw [if_neg e1, if_neg (by omega), if_neg (by omega), if_neg (by omega), if_neg (by omega)])) (wrong_ok8 R c w vs h k hh)
end Go.Proofs.Ytlfldoghomnbkaa.QVfs
