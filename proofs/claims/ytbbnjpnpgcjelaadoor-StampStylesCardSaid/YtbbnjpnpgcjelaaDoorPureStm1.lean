/- stamp's plain laws: what a directive writes, by the program and by the document. -/
import Derived.Test.YtbbnjpnpgcjelaaDoorPureStm0
namespace Go.Proofs.YtbbnjpnpgcjelaaDoor.Pure
open Go.RowKit Go.Lib Go.Proofs.YtbbnjpnpgcjelaaDoor.QStm Go.Proofs.YtbbnjpnpgcjelaaDoor.DateMath Go.Proofs.YtbbnjpnpgcjelaaDoor.DateEv Go.Proofs.YtbbnjpnpgcjelaaDoorW.PrintWords Go.Proofs.YtbbnjpnpgcjelaaDoorW.PrintLast Go.Proofs.YtbbnjpnpgcjelaaDoorW.PrintMore
set_option linter.unusedVariables false
set_option linter.unusedSimpArgs false

def monthT (M : Int) : ByteArray := rdOf ByteArray.empty [(⟨#[]⟩ : ByteArray), (⟨#[74, 97, 110]⟩ : ByteArray), (⟨#[70, 101, 98]⟩ : ByteArray), (⟨#[77, 97, 114]⟩ : ByteArray), (⟨#[65, 112, 114]⟩ : ByteArray), (⟨#[77, 97, 121]⟩ : ByteArray), (⟨#[74, 117, 110]⟩ : ByteArray), (⟨#[74, 117, 108]⟩ : ByteArray), (⟨#[65, 117, 103]⟩ : ByteArray), (⟨#[83, 101, 112]⟩ : ByteArray), (⟨#[79, 99, 116]⟩ : ByteArray), (⟨#[78, 111, 118]⟩ : ByteArray), (⟨#[68, 101, 99]⟩ : ByteArray)] M
def weekT (d : Int) : ByteArray := rdOf ByteArray.empty [(⟨#[83, 117, 110]⟩ : ByteArray), (⟨#[77, 111, 110]⟩ : ByteArray), (⟨#[84, 117, 101]⟩ : ByteArray), (⟨#[87, 101, 100]⟩ : ByteArray), (⟨#[84, 104, 117]⟩ : ByteArray), (⟨#[70, 114, 105]⟩ : ByteArray), (⟨#[83, 97, 116]⟩ : ByteArray)] d
theorem monthP (M : Int) (h : 1 ≤ M) (h' : M ≤ 12) : (if 0 ≤ (wrap64 ((wrap64 (3 * M)) - 3)) then (if (wrap64 ((wrap64 (3 * M)) - 3)) ≤ (wrap64 (3 * M)) then (if (wrap64 (3 * M)) ≤ 36 then (some ((⟨#[74, 97, 110, 70, 101, 98, 77, 97, 114, 65, 112, 114, 77, 97, 121, 74, 117, 110, 74, 117, 108, 65, 117, 103, 83, 101, 112, 79, 99, 116, 78, 111, 118, 68, 101, 99]⟩ : ByteArray).extract ((wrap64 ((wrap64 (3 * M)) - 3)) : Int).toNat ((wrap64 (3 * M)) : Int).toNat, true)) else (none)) else (none)) else (none)) = some (monthT M, true) := by
  obtain rfl | rfl | rfl | rfl | rfl | rfl | rfl | rfl | rfl | rfl | rfl | rfl : M = 1 ∨ M = 2 ∨ M = 3 ∨ M = 4 ∨ M = 5 ∨ M = 6 ∨ M = 7 ∨ M = 8 ∨ M = 9 ∨ M = 10 ∨ M = 11 ∨ M = 12 := by omega
  all_goals decide +kernel
theorem weekP (d : Int) (h : 0 ≤ d) (h' : d ≤ 6) : (if 0 ≤ (wrap64 (3 * d)) then (if (wrap64 (3 * d)) ≤ (wrap64 ((wrap64 (3 * d)) + 3)) then (if (wrap64 ((wrap64 (3 * d)) + 3)) ≤ 21 then (some ((⟨#[83, 117, 110, 77, 111, 110, 84, 117, 101, 87, 101, 100, 84, 104, 117, 70, 114, 105, 83, 97, 116]⟩ : ByteArray).extract ((wrap64 (3 * d)) : Int).toNat ((wrap64 ((wrap64 (3 * d)) + 3)) : Int).toNat, true)) else (none)) else (none)) else (none)) = some (weekT d, true) := by
  obtain rfl | rfl | rfl | rfl | rfl | rfl | rfl : d = 0 ∨ d = 1 ∨ d = 2 ∨ d = 3 ∨ d = 4 ∨ d = 5 ∨ d = 6 := by omega
  all_goals decide +kernel
theorem month_size (M : Int) (h : 1 ≤ M) (h' : M ≤ 12) : (monthT M).size ≤ 3 := by
  obtain rfl | rfl | rfl | rfl | rfl | rfl | rfl | rfl | rfl | rfl | rfl | rfl : M = 1 ∨ M = 2 ∨ M = 3 ∨ M = 4 ∨ M = 5 ∨ M = 6 ∨ M = 7 ∨ M = 8 ∨ M = 9 ∨ M = 10 ∨ M = 11 ∨ M = 12 := by omega
  all_goals decide +kernel
theorem week_size (d : Int) (h : 0 ≤ d) (h' : d ≤ 6) : (weekT d).size ≤ 3 := by
  obtain rfl | rfl | rfl | rfl | rfl | rfl | rfl : d = 0 ∨ d = 1 ∨ d = 2 ∨ d = 3 ∨ d = 4 ∨ d = 5 ∨ d = 6 := by omega
  all_goals decide +kernel
/-- An offset's text. -/
def zoneT (o : Int) : ByteArray := if clamp o < 0 then ((⟨#[45]⟩ : ByteArray) ++ two (-clamp o / 3600)) ++ two (-clamp o / 60 % 60) else ((⟨#[43]⟩ : ByteArray) ++ two (clamp o / 3600)) ++ two (clamp o / 60 % 60)
theorem zone_size (o : Int) : (zoneT o).size = 5 := by
  unfold zoneT; split <;> rw [ByteArray.size_append, ByteArray.size_append, two_size, two_size] <;> rfl
theorem zoneJ (x : Int) (s : ByteArray) (hs : s.size = 1) (h : 0 ≤ x) (h' : x ≤ 86400) (k : Nat) : stamp_zone.j0 (k + 1) x s = some ((s ++ two (x / 3600)) ++ two (x / 60 % 60)) := by
  rw [stamp_zone.j0, tdiv_nn _ _ h, tdiv_nn _ _ h, wrap_id (x / 3600) (by omega) (by omega), wrap_id (x / 60) (by omega) (by omega), tmod_nn _ _ (by omega), pad2 _ (by omega) (by omega), Option.bind_some, if_pos (by rw [two_size]; omega), pad2 _ (by omega) (by omega), Option.bind_some, if_pos (by rw [two_size, two_size]; omega)]
theorem clamp_a (o : Int) : mn (mx o (-86400)) 86400 = clamp o := by unfold mn mx clamp; repeat' split <;> omega
theorem clamp_b (o : Int) : mx (mn o 86400) (-86400) = clamp o := by unfold mn mx clamp; repeat' split <;> omega
theorem zone_ev (o : Int) : Ev (fun k => stamp_zone.f k o) (zoneT o) := by
  have hc := clamp_bd o
  unfold stamp_zone.f zoneT
  simp only [clamp_a]
  by_cases h : clamp o < 0
  · simp only [if_pos h]
    exact Ev.step (f := fun _ => some _) (fun k => zoneJ _ _ rfl (by omega) (by omega) k) (Ev.now _)
  · simp only [if_neg h]
    exact Ev.step (f := fun _ => some _) (fun k => zoneJ _ _ rfl (by omega) (by omega) k) (Ev.now _)
theorem rzoneJ (x : Int) (s : ByteArray) (hs : s.size = 1) (h : 0 ≤ x) (h' : x ≤ 86400) (k : Nat) : domesdayref05_One.j0 (k + 1) x s = some ((s ++ two (x / 3600)) ++ two (x / 60 % 60), true) := by
  rw [domesdayref05_One.j0, tdiv_nn _ _ h, tdiv_nn _ _ h, wrap_id (x / 3600) (by omega) (by omega), wrap_id (x / 60) (by omega) (by omega), tmod_nn _ _ (by omega), two_eq, Option.bind_some, if_pos (by rw [two_size]; omega), two_eq, Option.bind_some, if_pos (by rw [two_size, two_size]; omega)]
def dashed (Y M D : Int) : ByteArray := (((dec Y ++ (⟨#[45]⟩ : ByteArray)) ++ two M) ++ (⟨#[45]⟩ : ByteArray)) ++ two D
def colons (h mi s : Int) : ByteArray := (((two h ++ (⟨#[58]⟩ : ByteArray)) ++ two mi) ++ (⟨#[58]⟩ : ByteArray)) ++ two s
/-- What a directive writes that is neither F nor T. -/
def dv0 (t o Y M D h mi s wd yd : Int) (c : Int) : ByteArray × Bool :=
  if c = 89 then (dec Y, true) else if c = 109 then (two M, true) else if c = 100 then (two D, true) else if c = 101 then (dayE D, true) else if c = 72 then (two h, true) else if c = 77 then (two mi, true) else if c = 83 then (two s, true) else if c = 106 then (three yd, true) else if c = 98 then (monthT M, true) else if c = 97 then (weekT wd, true) else if c = 115 then (dec t, true) else if c = 122 then (zoneT o, true) else if c = 37 then (⟨#[37]⟩, true) else (⟨#[]⟩, false)
def dv (t o Y M D h mi s wd yd : Int) (c : Int) : ByteArray × Bool :=
  if c = 70 then (dashed Y M D, true) else if c = 84 then (colons h mi s, true) else dv0 t o Y M D h mi s wd yd c
/-- A date's numbers. -/
structure Nums (t o Y M D h mi s wd yd : Int) : Prop where
  t0 : -9223372036854775808 ≤ t
  t1 : t ≤ 9223372036854775807
  Y0 : -9223372036854775808 ≤ Y
  Y1 : Y ≤ 9223372036854775807
  M0 : 1 ≤ M
  M1 : M ≤ 12
  D0 : 1 ≤ D
  D1 : D ≤ 31
  h0 : 0 ≤ h
  h1 : h ≤ 23
  m0 : 0 ≤ mi
  m1 : mi ≤ 59
  s0 : 0 ≤ s
  s1 : s ≤ 59
  w0 : 0 ≤ wd
  w1 : wd ≤ 6
  y0 : 1 ≤ yd
  y1 : yd ≤ 366
theorem nums_of {t o Y M D h mi s wd yd : Int} (g0 : -9223372036854775808 ≤ t) (g1 : t ≤ 9223372036854775807) (a : Date t o Y M D h mi s wd yd) : Nums t o Y M D h mi s wd yd := by
  have hcl := clamp_bd o
  obtain ⟨⟨c, y, a1, a2, a3, a4, a5, a6⟩, ⟨b1, b2⟩, ⟨c1, c2, c3⟩, d1, d2, d3, d4⟩ := a
  have hl := lp_01 y
  have hb := before_mono 0 y (by omega) a2
  have hb' := before_mono y 400 a2 (by omega)
  have b0 := before_zero
  have b4 := before_400
  have hd := dim_pos Y M b1 b2
  exact ⟨g0, g1, by omega, by omega, b1, b2, c1, by omega, by omega, by omega, by omega, by omega, by omega, by omega, by omega, by omega, a5, by omega⟩
section
variable {t o Y M D h mi s wd yd : Int}
theorem ref_dv (n : Nums t o Y M D h mi s wd yd) (hof : Ev (fun k => domesdayref04_Of.f k t o) (Y, M, D, h, mi, s, wd, yd)) (c : Int) : Ev (fun k => domesdayref05_One.f k c t o) (dv t o Y M D h mi s wd yd c) := by
  have eY := dec_size Y n.Y0 n.Y1
  have hc := clamp_bd o
  unfold domesdayref05_One.f
  refine Ev.bind hof ?_
  unfold dv dv0
  by_cases c1 : c = 89
  · subst c1; simp only [Int.reduceEq, if_true, if_false]
    exact Ev.bind (f := fun _ t127 => some (t127, true)) (refDec Y n.Y0 n.Y1) (Ev.now _)
  by_cases c2 : c = 109
  · subst c2; simp only [Int.reduceEq, if_true, if_false, two_eq, Option.bind_some]; exact Ev.now _
  by_cases c3 : c = 100
  · subst c3; simp only [Int.reduceEq, if_true, if_false, two_eq, Option.bind_some]; exact Ev.now _
  by_cases c4 : c = 72
  · subst c4; simp only [Int.reduceEq, if_true, if_false, two_eq, Option.bind_some]; exact Ev.now _
  by_cases c5 : c = 77
  · subst c5; simp only [Int.reduceEq, if_true, if_false, two_eq, Option.bind_some]; exact Ev.now _
  by_cases c6 : c = 83
  · subst c6; simp only [Int.reduceEq, if_true, if_false, two_eq, Option.bind_some]; exact Ev.now _
  by_cases c7 : c = 106
  · subst c7; simp only [Int.reduceEq, if_true, if_false, two_eq, Option.bind_some]
    rw [if_pos (by rw [two_size]; show 1 + 2 ≤ _; omega)]
    exact Ev.now _
  by_cases c8 : c = 115
  · subst c8; simp only [Int.reduceEq, if_true, if_false]
    exact Ev.bind (f := fun _ t127 => some (t127, true)) (refDec t n.t0 n.t1) (Ev.now _)
  by_cases c9 : c = 37
  · subst c9; simp only [Int.reduceEq, if_true, if_false]; exact Ev.now _
  by_cases c10 : c = 98
  · subst c10; simp only [Int.reduceEq, if_true, if_false]
    rw [if_pos (by have := n.M0; omega), if_pos (by have := n.M1; omega)]
    exact Ev.now _
  by_cases c11 : c = 97
  · subst c11; simp only [Int.reduceEq, if_true, if_false]
    rw [if_pos n.w0, if_pos (by have := n.w1; omega)]
    exact Ev.now _
  by_cases c12 : c = 70
  · subst c12; simp only [Int.reduceEq, if_true, if_false, two_eq, Option.bind_some, two_size]
    refine Ev.bind (f := fun _ t138 => _) (refDec Y n.Y0 n.Y1) ?_
    rw [if_pos (by omega), if_pos (by omega), if_pos (by omega), if_pos (by omega)]
    exact Ev.now _
  by_cases c13 : c = 84
  · subst c13; simp only [Int.reduceEq, if_true, if_false, two_eq, Option.bind_some, two_size]
    rw [if_pos (by omega), if_pos (by omega), if_pos (by omega), if_pos (by omega)]
    exact Ev.now _
  by_cases c14 : c = 101
  · subst c14; simp only [Int.reduceEq, if_true, if_false, two_eq, Option.bind_some]
    unfold dayE
    by_cases hD : D < 10
    · simp only [if_pos hD]
      rw [if_pos (by rw [two_size]; omega), if_pos (by rw [ByteArray.size_extract, two_size]; omega)]
      exact Ev.now _
    · simp only [if_neg hD]; exact Ev.now _
  by_cases c15 : c = 122
  · subst c15; simp only [Int.reduceEq, if_true, if_false, clamp_b]
    unfold zoneT
    by_cases h : clamp o < 0
    · simp only [if_pos h]
      exact Ev.step (f := fun _ => some _) (fun k => rzoneJ _ _ rfl (by omega) (by omega) k) (Ev.now _)
    · simp only [if_neg h]
      exact Ev.step (f := fun _ => some _) (fun k => rzoneJ _ _ rfl (by omega) (by omega) k) (Ev.now _)
  simp only [c1, c2, c3, c4, c5, c6, c7, c8, c9, c10, c11, c12, c13, c14, c15, if_false]
  exact Ev.now _
theorem d0_dv (n : Nums t o Y M D h mi s wd yd) (hof : Ev (fun k => date_Of.f k t o) (Y, M, D, h, mi, s, wd, yd)) (c : Int) (hF : c ≠ 70) (hT : c ≠ 84) : Ev (fun k => D0.stamp_directive.f k c t o) (dv0 t o Y M D h mi s wd yd c) := by
  unfold D0.stamp_directive.f
  refine Ev.bind hof ?_
  unfold dv0
  by_cases c1 : c = 89
  · subst c1; simp only [Int.reduceEq, if_true, if_false, digits_Dec_eq Y n.Y0 n.Y1, Option.bind_some]; exact Ev.now _
  by_cases c2 : c = 109
  · subst c2; simp only [Int.reduceEq, if_true, if_false]; rw [pad2 M (by have := n.M0; omega) (by have := n.M1; omega)]; exact Ev.now _
  by_cases c3 : c = 100
  · subst c3; simp only [Int.reduceEq, if_true, if_false]; rw [pad2 D (by have := n.D0; omega) (by have := n.D1; omega)]; exact Ev.now _
  by_cases c4 : c = 101
  · subst c4; simp only [Int.reduceEq, if_true, if_false]; rw [padE D (by have := n.D0; omega) (by have := n.D1; omega)]; exact Ev.now _
  by_cases c5 : c = 72
  · subst c5; simp only [Int.reduceEq, if_true, if_false]; rw [pad2 h n.h0 (by have := n.h1; omega)]; exact Ev.now _
  by_cases c6 : c = 77
  · subst c6; simp only [Int.reduceEq, if_true, if_false]; rw [pad2 mi n.m0 (by have := n.m1; omega)]; exact Ev.now _
  by_cases c7 : c = 83
  · subst c7; simp only [Int.reduceEq, if_true, if_false]; rw [pad2 s n.s0 (by have := n.s1; omega)]; exact Ev.now _
  by_cases c8 : c = 106
  · subst c8; simp only [Int.reduceEq, if_true, if_false]; rw [pad3 yd (by have := n.y0; omega) (by have := n.y1; omega)]; exact Ev.now _
  by_cases c9 : c = 98
  · subst c9; simp only [Int.reduceEq, if_true, if_false]; rw [monthP M n.M0 n.M1]; exact Ev.now _
  by_cases c10 : c = 97
  · subst c10; simp only [Int.reduceEq, if_true, if_false]; rw [weekP wd n.w0 n.w1]; exact Ev.now _
  by_cases c11 : c = 115
  · subst c11; simp only [Int.reduceEq, if_true, if_false, digits_Dec_eq t n.t0 n.t1, Option.bind_some]; exact Ev.now _
  by_cases c12 : c = 122
  · subst c12; simp only [Int.reduceEq, if_true, if_false]
    exact Ev.bind (f := fun _ t141 => some (t141, true)) (zone_ev o) (Ev.now _)
  by_cases c13 : c = 37
  · subst c13; simp only [Int.reduceEq, if_true, if_false]; exact Ev.now _
  simp only [c1, c2, c3, c4, c5, c6, c7, c8, c9, c10, c11, c12, c13, hF, hT, if_false]
  exact Ev.now _
end
end Go.Proofs.YtbbnjpnpgcjelaaDoor.Pure
