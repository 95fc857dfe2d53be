import Derived.Test.YtlfldoghomnbkaaSQVfs0
import Derived.Test.YtlfldoghomnbkaaSXVfE
-- Texts of this seat, what the claim does not reach struck out by a program.
namespace Go.Proofs.Ytlfldoghomnbkaa.QVfs
open Go.RowKit Go.Proofs.YtlfldoghomnbkaaW.PrintWords Go.Proofs.YtlfldoghomnbkaaW.PrintLast Go.Proofs.YtlfldoghomnbkaaW.PrintMore
attribute [local go_sem high] eqA61
attribute [local go_sem] max2_int min2_int max_two min_two max_three min_three max_four min_four
set_option linter.unusedVariables false
set_option linter.unusedSimpArgs false
def domesdayref06_Good.l0 : Nat → ByteArray → Int → Option (Bool)
 | 0, _, _ => none
 | k + 1, x0, x3 => if x3 < (x0.size : Int) then (if 0 ≤ x3 then (if (bt x0 x3) = 0 then (some false) else (if (bt x0 x3) = 47 then (some false) else (domesdayref06_Good.l0 k x0 (wrap64 (x3 + 1))))) else (none)) else (if (x0.size : Int) > 0 then (if (x0.size : Int) < 256 then (if x0.toList = ([46] : List UInt8) then (some false) else (some (x0.toList != ([46, 46] : List UInt8)))) else (some false)) else (some false))
def domesdayref06_Good.f (k : Nat) (a0 : ByteArray) : Option (Bool) := domesdayref06_Good.l0 k a0 0
theorem domesdayref06_Good.mono_l : ∀ k, (∀ y0 y1, LeO (domesdayref06_Good.l0 k y0 y1) (domesdayref06_Good.l0 (k + 1) y0 y1))
 | 0 => fun _ _ r h => by simp [domesdayref06_Good.l0] at h
 | k + 1 => by
  have ih0 := domesdayref06_Good.mono_l k
  ·intro y0 y1
   unfold domesdayref06_Good.l0
   repeat' first
   | (with_reducible exact ih0 _ _)
   | (with_reducible exact LeO.refl _)
   | (with_reducible exact LeO.none _)
   | (with_reducible refine LeO.ite ?_ ?_)
   | (with_reducible refine LeO.bind ?_ (fun _ => ?_))
   | exact ih0 _ _
   | exact LeO.none _
   | refine LeO.ite ?_ ?_
   | refine LeO.bind ?_ (fun _ => ?_)
theorem domesdayref06_Good.mono : ∀ a0 k, LeO (domesdayref06_Good.f k a0) (domesdayref06_Good.f (k + 1) a0) := by
 intro a0 k
 have ih0 := domesdayref06_Good.mono_l k
 unfold domesdayref06_Good.f
 repeat' first
   | (with_reducible exact ih0 _ _)
   | (with_reducible exact LeO.refl _)
   | (with_reducible exact LeO.none _)
   | (with_reducible refine LeO.ite ?_ ?_)
   | (with_reducible refine LeO.bind ?_ (fun _ => ?_))
   | exact ih0 _ _
   | exact LeO.none _
   | refine LeO.ite ?_ ?_
   | refine LeO.bind ?_ (fun _ => ?_)
set_option maxHeartbeats 8000000 in
set_option maxRecDepth 100000 in
theorem domesdayref06_Good.calls (k : Nat) (a0 : ByteArray) (r : Bool) (w : World) (h : domesdayref06_Good.f k a0 = some r) :
  Calls Try.prog 10 #[.string a0] w fun e w' => e = .returned (.bool r) ∧ Drawn0 w w' := by
 have H : (domesdayref06_Good.l0 k a0 0) = some r := h
 clear h
 have H' := Aside0.mk H
 clear H
 go_enter Try.func10, Try.ntmps10
 go_wp2
 go_loopg [3] k (fun kq v3 w' => ∃ (x3_1 : Int), v3 = .int .i64 x3_1 ∧ Aside0 (domesdayref06_Good.l0 kq a0 x3_1 = some r) ∧ Aside0 (kq ≤ k) ∧ Drawn0 w w')
 case atStart => exact ⟨(0), (by first | rfl | (simp; done) | (simp [*]; done)), H', ⟨Nat.le_refl _⟩, by repeat (first | exact Drawn0.refl _ | apply Drawn0.step)⟩
 case round =>
  clear H'
  (try clear c1)
  obtain ⟨x3_1, rfl, HA, HK1, ⟨m1, rfl⟩⟩ := hrel
  cases gk with
  | zero => exact absurd HA.out (by simp [domesdayref06_Good.l0])
  | succ k1 =>
   have H := HA.out
   clear HA
   simp only [domesdayref06_Good.l0] at H
   by_cases c2 : x3_1 < (a0.size : Int)
   ·rw [if_pos c2] at H
    have c2b0 : decide (x3_1 < (a0.size : Int)) = true := decide_eq_true c2
    clear c2
    by_cases c3 : 0 ≤ x3_1
    ·rw [if_pos c3] at H
     have c3b0 : decide (0 ≤ x3_1) = true := decide_eq_true c3
     clear c3
     by_cases c5 : (bt a0 x3_1) = 0
     ·rw [if_pos c5] at H
      have c5b0 : ((bt a0 x3_1) == 0) = true := beq_iff_eq.mpr c5
      have c5b1 : ((bt a0 x3_1) != 0) = false := bne_eq_false_iff_eq.mpr c5
      clear c5
      obtain rfl := Option.some.inj H
      have p4 : 0 ≤ (x3_1 : Int) := of_decide_eq_true (by first | (with_reducible assumption) | assumption)
      have q4 : x3_1 < (a0.size : Int) := of_decide_eq_true (by first | (with_reducible assumption) | assumption)
      have hx4 := bt_at a0 x3_1
      replace p4 := eq_true p4
      replace q4 := eq_true q4
      go_wp2
      go_ret
      exact ⟨by first | rfl | (simp; done) | (simp [*]; done), by repeat (first | exact Drawn0.refl _ | apply Drawn0.step)⟩
     ·rw [if_neg c5] at H
      have c5b0 : ((bt a0 x3_1) == 0) = false := beq_eq_false_iff_ne.mpr c5
      have c5b1 : ((bt a0 x3_1) != 0) = true := bne_iff_ne.mpr c5
      by_cases c7 : (bt a0 x3_1) = 47
      ·rw [if_pos c7] at H
       have c7b0 : ((bt a0 x3_1) == 47) = true := beq_iff_eq.mpr c7
       have c7b1 : ((bt a0 x3_1) != 47) = false := bne_eq_false_iff_eq.mpr c7
       clear c7
       obtain rfl := Option.some.inj H
       have p4 : 0 ≤ (x3_1 : Int) := of_decide_eq_true (by first | (with_reducible assumption) | assumption)
       have q4 : x3_1 < (a0.size : Int) := of_decide_eq_true (by first | (with_reducible assumption) | assumption)
       have hx4 := bt_at a0 x3_1
       replace p4 := eq_true p4
       replace q4 := eq_true q4
       have p6 : 0 ≤ (x3_1 : Int) := of_decide_eq_true (by first | (with_reducible assumption) | assumption)
       have q6 : x3_1 < (a0.size : Int) := of_decide_eq_true (by first | (with_reducible assumption) | assumption)
       have hx6 := bt_at a0 x3_1
       replace p6 := eq_true p6
       replace q6 := eq_true q6
       go_wp2
       go_ret
       exact ⟨by first | rfl | (simp; done) | (simp [*]; done), by repeat (first | exact Drawn0.refl _ | apply Drawn0.step)⟩
      ·rw [if_neg c7] at H
       have c7b0 : ((bt a0 x3_1) == 47) = false := beq_eq_false_iff_ne.mpr c7
       have c7b1 : ((bt a0 x3_1) != 47) = true := bne_iff_ne.mpr c7
       have H' := Aside0.mk H
       clear H
       have p4 : 0 ≤ (x3_1 : Int) := of_decide_eq_true (by first | (with_reducible assumption) | assumption)
       have q4 : x3_1 < (a0.size : Int) := of_decide_eq_true (by first | (with_reducible assumption) | assumption)
       have hx4 := bt_at a0 x3_1
       replace p4 := eq_true p4
       replace q4 := eq_true q4
       have p6 : 0 ≤ (x3_1 : Int) := of_decide_eq_true (by first | (with_reducible assumption) | assumption)
       have q6 : x3_1 < (a0.size : Int) := of_decide_eq_true (by first | (with_reducible assumption) | assumption)
       have hx6 := bt_at a0 x3_1
       replace p6 := eq_true p6
       replace q6 := eq_true q6
       go_wp2
       go_roundg k1
       case measure => have := HK1.out; omega
       case rel => exact ⟨(wrap64 (x3_1 + 1)), (by first | rfl | (simp; done) | (simp [*]; done)), H', ⟨by have := HK1.out; omega⟩, by repeat (first | exact Drawn0.refl _ | apply Drawn0.step)⟩
    ·rw [if_neg c3] at H
     exact absurd H (by simp)
   ·rw [if_neg c2] at H
    have c2b0 : decide (x3_1 < (a0.size : Int)) = false := decide_eq_false c2
    clear c2
    by_cases c8 : (a0.size : Int) > 0
    ·rw [if_pos c8] at H
     have c8b0 : decide (0 < (a0.size : Int)) = true := decide_eq_true c8
     have c8b1 : decide (0 < a0.size) = true := decide_eq_true (by omega)
     clear c8
     by_cases c9 : (a0.size : Int) < 256
     ·rw [if_pos c9] at H
      have c9b0 : decide ((a0.size : Int) < 256) = true := decide_eq_true c9
      have c9b1 : decide (a0.size < 256) = true := decide_eq_true (by omega)
      clear c9
      by_cases c10 : a0.toList = ([46] : List UInt8)
      ·rw [if_pos c10] at H
       have c10b0 : (a0.toList == ([46] : List UInt8)) = true := beq_iff_eq.mpr c10
       have c10b1 : (a0.toList != ([46] : List UInt8)) = false := bne_eq_false_iff_eq.mpr c10
       clear c10
       obtain rfl := Option.some.inj H
       go_wp2
       go_ret
       exact ⟨by first | rfl | (simp; done) | (simp [*]; done), by repeat (first | exact Drawn0.refl _ | apply Drawn0.step)⟩
      ·rw [if_neg c10] at H
       have c10b0 : (a0.toList == ([46] : List UInt8)) = false := beq_eq_false_iff_ne.mpr c10
       have c10b1 : (a0.toList != ([46] : List UInt8)) = true := bne_iff_ne.mpr c10
       obtain rfl := Option.some.inj H
       go_wp2
       go_ret
       exact ⟨by first | rfl | (simp; done) | (simp [*]; done), by repeat (first | exact Drawn0.refl _ | apply Drawn0.step)⟩
     ·rw [if_neg c9] at H
      have c9b0 : decide ((a0.size : Int) < 256) = false := decide_eq_false c9
      have c9b1 : decide (a0.size < 256) = false := decide_eq_false (by omega)
      clear c9
      obtain rfl := Option.some.inj H
      go_wp2
      go_ret
      exact ⟨by first | rfl | (simp; done) | (simp [*]; done), by repeat (first | exact Drawn0.refl _ | apply Drawn0.step)⟩
    ·rw [if_neg c8] at H
     have c8b0 : decide (0 < (a0.size : Int)) = false := decide_eq_false c8
     have c8b1 : decide (0 < a0.size) = false := decide_eq_false (by omega)
     clear c8
     obtain rfl := Option.some.inj H
     go_wp2
     go_ret
     exact ⟨by first | rfl | (simp; done) | (simp [*]; done), by repeat (first | exact Drawn0.refl _ | apply Drawn0.step)⟩
mutual
def domesdayref06_Few.l0 : Nat → List (S33) → Int → Int → Option (Bool)
 | 0, _, _, _ => none
 | k + 1, x0, x1, x5 => if x5 < (x0.length : Int) then (domesdayref06_Few.j1 k x0 x1 x5 (decide (x5 < 400))) else (domesdayref06_Few.j1 k x0 x1 x5 false)
def domesdayref06_Few.j1 : Nat → List (S33) → Int → Int → Bool → Option (Bool)
 | 0, _, _, _, _ => none
 | k + 1, x0, x1, x5, x13 => if x13 = true then (if 0 ≤ x5 then (if x5 < (x0.length : Int) then (if (((rd_T33 x0 x5).f3).size : Int) > 300 then (some false) else (if (((rd_T33 x0 x5).f4).size : Int) > 5000 then (some false) else (domesdayref06_Few.l0 k x0 x1 (wrap64 (x5 + 1))))) else (none)) else (none)) else (some (decide ((x0.length : Int) ≤ x1)))
end
def domesdayref06_Few.f (k : Nat) (l0 : List (S33)) (a1 : Int) : Option (Bool) := domesdayref06_Few.l0 k l0 a1 0
theorem domesdayref06_Few.mono_l : ∀ k, (∀ y0 y1 y2, LeO (domesdayref06_Few.l0 k y0 y1 y2) (domesdayref06_Few.l0 (k + 1) y0 y1 y2)) ∧ (∀ y0 y1 y2 y3, LeO (domesdayref06_Few.j1 k y0 y1 y2 y3) (domesdayref06_Few.j1 (k + 1) y0 y1 y2 y3))
 | 0 => ⟨fun _ _ _ r h => by simp [domesdayref06_Few.l0] at h, fun _ _ _ _ r h => by simp [domesdayref06_Few.j1] at h⟩
 | k + 1 => by
  obtain ⟨ih0, ih1⟩ := domesdayref06_Few.mono_l k
  refine ⟨?_, ?_⟩
  ·intro y0 y1 y2
   unfold domesdayref06_Few.l0
   repeat' first
   | (with_reducible exact ih0 _ _ _)
   | (with_reducible exact ih1 _ _ _ _)
   | (with_reducible exact LeO.refl _)
   | (with_reducible exact LeO.none _)
   | (with_reducible refine LeO.ite ?_ ?_)
   | (with_reducible refine LeO.bind ?_ (fun _ => ?_))
   | exact ih0 _ _ _
   | exact ih1 _ _ _ _
   | exact LeO.none _
   | refine LeO.ite ?_ ?_
   | refine LeO.bind ?_ (fun _ => ?_)
  ·intro y0 y1 y2 y3
   unfold domesdayref06_Few.j1
   repeat' first
   | (with_reducible exact ih0 _ _ _)
   | (with_reducible exact ih1 _ _ _ _)
   | (with_reducible exact LeO.refl _)
   | (with_reducible exact LeO.none _)
   | (with_reducible refine LeO.ite ?_ ?_)
   | (with_reducible refine LeO.bind ?_ (fun _ => ?_))
   | exact ih0 _ _ _
   | exact ih1 _ _ _ _
   | exact LeO.none _
   | refine LeO.ite ?_ ?_
   | refine LeO.bind ?_ (fun _ => ?_)
theorem domesdayref06_Few.mono : ∀ a0 a1 k, LeO (domesdayref06_Few.f k a0 a1) (domesdayref06_Few.f (k + 1) a0 a1) := by
 intro a0 a1 k
 obtain ⟨ih0, ih1⟩ := domesdayref06_Few.mono_l k
 unfold domesdayref06_Few.f
 repeat' first
   | (with_reducible exact ih0 _ _ _)
   | (with_reducible exact ih1 _ _ _ _)
   | (with_reducible exact LeO.refl _)
   | (with_reducible exact LeO.none _)
   | (with_reducible refine LeO.ite ?_ ?_)
   | (with_reducible refine LeO.bind ?_ (fun _ => ?_))
   | exact ih0 _ _ _
   | exact ih1 _ _ _ _
   | exact LeO.none _
   | refine LeO.ite ?_ ?_
   | refine LeO.bind ?_ (fun _ => ?_)
set_option maxHeartbeats 8000000 in
set_option maxRecDepth 100000 in
theorem domesdayref06_Few.calls (k : Nat) (A0 : Option Addr) (c0 : Nat) (l0 : List (S33)) (a1 : Int) (r : Bool) (w : World) (hr0 : Kd.C k33 w A0 l0.length l0) (hc0 : l0.length ≤ c0) (h : domesdayref06_Few.f k l0 a1 = some r) :
  Calls Try.prog 15 #[.slice A0 l0.length c0, .int .i64 a1] w fun e w' => e = .returned (.bool r) ∧ Drawn0 w w' := by
 have HR0 := Aside0.mk hr0
 have HC0 := Aside0.mk hc0
 clear hr0 hc0
 have H : (domesdayref06_Few.l0 k l0 a1 0) = some r := h
 clear h
 have H' := Aside0.mk H
 clear H
 go_enter Try.func15, Try.ntmps15
 go_wp2
 go_loopg [5] k (fun kq v5 w' => ∃ (x5_1 : Int), v5 = .int .i64 x5_1 ∧ Aside0 (domesdayref06_Few.l0 kq l0 a1 x5_1 = some r) ∧ Aside0 (kq ≤ k) ∧ Drawn0 w w')
 case atStart => exact ⟨(0), (by first | rfl | (simp; done) | (simp [*]; done)), H', ⟨Nat.le_refl _⟩, by repeat (first | exact Drawn0.refl _ | apply Drawn0.step)⟩
 case round =>
  clear H'
  (try clear c1); (try clear p2)
  obtain ⟨x5_1, rfl, HA, HK1, ⟨m1, rfl⟩⟩ := hrel
  cases gk with
  | zero => exact absurd HA.out (by simp [domesdayref06_Few.l0])
  | succ k1 =>
   have H := HA.out
   clear HA
   simp only [domesdayref06_Few.l0] at H
   have HC3 := Aside0.mk H
   clear H
   go_upto_region 2 with (fail)
   go_cut [13] (fun v13 wc => ∃ (kq : Nat) (x13_2 : Bool), v13 = .bool x13_2 ∧ Aside0 (domesdayref06_Few.j1 kq l0 a1 x5_1 x13_2 = some r) ∧ Aside0 (kq ≤ k1) ∧ Drawn0 w wc)
   case first =>
    have H := HC3.out
    clear HC3
    by_cases c4 : x5_1 < (l0.length : Int)
    ·rw [if_pos c4] at H
     have c4b0 : decide (x5_1 < (l0.length : Int)) = true := decide_eq_true c4
     clear c4
     (first | rw [c4b0] | (simp only [i64_w, i32_w]; rw [c4b0]) | skip)
     have H' := Aside0.mk H
     clear H
     go_wp2
     go_meet
     case rel => exact ⟨_, (decide (x5_1 < 400)), (by first | rfl | (simp; done) | (simp [*]; done)), H', ⟨by have := HK1.out; first | omega | exact Nat.le_refl _⟩, by repeat (first | exact Drawn0.refl _ | apply Drawn0.step)⟩
    ·rw [if_neg c4] at H
     have c4b0 : decide (x5_1 < (l0.length : Int)) = false := decide_eq_false c4
     clear c4
     (first | rw [c4b0] | (simp only [i64_w, i32_w]; rw [c4b0]) | skip)
     have H' := Aside0.mk H
     clear H
     go_wp2
     go_meet
     case rel => exact ⟨_, (false), (by first | rfl | (simp; done) | (simp [*]; done)), H', ⟨by have := HK1.out; first | omega | exact Nat.le_refl _⟩, by repeat (first | exact Drawn0.refl _ | apply Drawn0.step)⟩
   case rest =>
    clear HC3
    (try clear c1); (try clear p2); (try clear c4); (try clear c4b0); (try clear p2)
    obtain ⟨kq, x13_2, rfl, HA, HJ2, ⟨mc2, rfl⟩⟩ := hcut
    cases kq with
    | zero => exact absurd HA.out (by simp [domesdayref06_Few.j1])
    | succ kj2 =>
     have H := HA.out
     clear HA
     simp only [domesdayref06_Few.j1] at H
     by_cases c5 : x13_2 = true
     ·subst c5
      have H1 : (if 0 ≤ x5_1 then (if x5_1 < (l0.length : Int) then (if (((rd_T33 l0 x5_1).f3).size : Int) > 300 then (some false) else (if (((rd_T33 l0 x5_1).f4).size : Int) > 5000 then (some false) else (domesdayref06_Few.l0 kj2 l0 a1 (wrap64 (x5_1 + 1))))) else (none)) else (none)) = some r := by rw [if_pos rfl] at H; exact H
      clear H
      have H := H1
      clear H1
      by_cases c6 : 0 ≤ x5_1
      ·rw [if_pos c6] at H
       have c6b0 : decide (0 ≤ x5_1) = true := decide_eq_true c6
       clear c6
       by_cases c7 : x5_1 < (l0.length : Int)
       ·rw [if_pos c7] at H
        have c7b0 : decide (x5_1 < (l0.length : Int)) = true := decide_eq_true c7
        clear c7
        by_cases c8 : (((rd_T33 l0 x5_1).f3).size : Int) > 300
        ·rw [if_pos c8] at H
         have c8b0 : decide (300 < (((rd_T33 l0 x5_1).f3).size : Int)) = true := decide_eq_true c8
         have c8b1 : decide (300 < ((rd_T33 l0 x5_1).f3).size) = true := decide_eq_true (by omega)
         clear c8
         obtain rfl := Option.some.inj H
         have p105 : 0 ≤ (x5_1 : Int) := of_decide_eq_true (by first | (with_reducible assumption) | assumption)
         have q105 : x5_1 < (l0.length : Int) := of_decide_eq_true (by first | (with_reducible assumption) | assumption)
         obtain ⟨ad105, e105, hx105_0, hx105_1, hx105_2, hx105_3, hx105_4, hx105_5, hx105_6, hx105_7⟩ := at_T33 HR0.out x5_1 p105 q105
         cases e105
         replace p105 := eq_true p105
         replace q105 := eq_true q105
         go_wp2
         go_ret
         exact ⟨by first | rfl | (simp; done) | (simp [*]; done), by repeat (first | exact Drawn0.refl _ | apply Drawn0.step)⟩
        ·rw [if_neg c8] at H
         have c8b0 : decide (300 < (((rd_T33 l0 x5_1).f3).size : Int)) = false := decide_eq_false c8
         have c8b1 : decide (300 < ((rd_T33 l0 x5_1).f3).size) = false := decide_eq_false (by omega)
         clear c8
         by_cases c9 : (((rd_T33 l0 x5_1).f4).size : Int) > 5000
         ·rw [if_pos c9] at H
          have c9b0 : decide (5000 < (((rd_T33 l0 x5_1).f4).size : Int)) = true := decide_eq_true c9
          have c9b1 : decide (5000 < ((rd_T33 l0 x5_1).f4).size) = true := decide_eq_true (by omega)
          clear c9
          obtain rfl := Option.some.inj H
          have p105 : 0 ≤ (x5_1 : Int) := of_decide_eq_true (by first | (with_reducible assumption) | assumption)
          have q105 : x5_1 < (l0.length : Int) := of_decide_eq_true (by first | (with_reducible assumption) | assumption)
          obtain ⟨ad105, e105, hx105_0, hx105_1, hx105_2, hx105_3, hx105_4, hx105_5, hx105_6, hx105_7⟩ := at_T33 HR0.out x5_1 p105 q105
          cases e105
          replace p105 := eq_true p105
          replace q105 := eq_true q105
          have p106 : 0 ≤ (x5_1 : Int) := of_decide_eq_true (by first | (with_reducible assumption) | assumption)
          have q106 : x5_1 < (l0.length : Int) := of_decide_eq_true (by first | (with_reducible assumption) | assumption)
          obtain ⟨ad106, e106, hx106_0, hx106_1, hx106_2, hx106_3, hx106_4, hx106_5, hx106_6, hx106_7⟩ := at_T33 HR0.out x5_1 p106 q106
          obtain rfl : ad105 = ad106 := (by injection e106)
          replace p106 := eq_true p106
          replace q106 := eq_true q106
          go_wp2
          go_ret
          exact ⟨by first | rfl | (simp; done) | (simp [*]; done), by repeat (first | exact Drawn0.refl _ | apply Drawn0.step)⟩
         ·rw [if_neg c9] at H
          have c9b0 : decide (5000 < (((rd_T33 l0 x5_1).f4).size : Int)) = false := decide_eq_false c9
          have c9b1 : decide (5000 < ((rd_T33 l0 x5_1).f4).size) = false := decide_eq_false (by omega)
          clear c9
          have H' := Aside0.mk H
          clear H
          have p105 : 0 ≤ (x5_1 : Int) := of_decide_eq_true (by first | (with_reducible assumption) | assumption)
          have q105 : x5_1 < (l0.length : Int) := of_decide_eq_true (by first | (with_reducible assumption) | assumption)
          obtain ⟨ad105, e105, hx105_0, hx105_1, hx105_2, hx105_3, hx105_4, hx105_5, hx105_6, hx105_7⟩ := at_T33 HR0.out x5_1 p105 q105
          cases e105
          replace p105 := eq_true p105
          replace q105 := eq_true q105
          have p106 : 0 ≤ (x5_1 : Int) := of_decide_eq_true (by first | (with_reducible assumption) | assumption)
          have q106 : x5_1 < (l0.length : Int) := of_decide_eq_true (by first | (with_reducible assumption) | assumption)
          obtain ⟨ad106, e106, hx106_0, hx106_1, hx106_2, hx106_3, hx106_4, hx106_5, hx106_6, hx106_7⟩ := at_T33 HR0.out x5_1 p106 q106
          obtain rfl : ad105 = ad106 := (by injection e106)
          replace p106 := eq_true p106
          replace q106 := eq_true q106
          go_wp2
          go_roundg kj2
          case measure => have := HK1.out; have := HJ2.out; omega
          case rel => exact ⟨(wrap64 (x5_1 + 1)), (by first | rfl | (simp; done) | (simp [*]; done)), H', ⟨by have := HK1.out; have := HJ2.out; omega⟩, by repeat (first | exact Drawn0.refl _ | apply Drawn0.step)⟩
       ·rw [if_neg c7] at H
        exact absurd H (by simp)
      ·rw [if_neg c6] at H
       exact absurd H (by simp)
     ·replace c5 := Bool.eq_false_iff.mpr c5
      subst c5
      have H1 : (some (decide ((l0.length : Int) ≤ a1))) = some r := by rw [if_neg (show ¬ (false = true) by decide)] at H; exact H
      clear H
      have H := H1
      clear H1
      obtain rfl := Option.some.inj H
      go_wp2
      go_ret
      exact ⟨by first | rfl | (simp; done) | (simp [*]; done), by repeat (first | exact Drawn0.refl _ | apply Drawn0.step)⟩
def domesdayref06_bits.f (a0 : Int) : Option (Int) := some (Int.tmod (wrap64 ((Int.tmod a0 4096) + 4096)) 4096)
def domesdayref06_FS_Has.f (l0_0 : List (S36)) (l0_1 : List (S81)) (l0_2 : List Int) (l0_3 : List Bool) (l0_4 : List Int) (l0_5 : List Int) (a1 : Int) : Option (Bool) := if a1 ≥ 0 then (some (decide (a1 < (l0_0.length : Int)))) else (some false)
set_option maxHeartbeats 8000000 in
set_option maxRecDepth 100000 in
theorem domesdayref06_FS_Has.calls (A0_0 : Option Addr) (c0_0 : Nat) (l0_0 : List (S36)) (A0_1 : Option Addr) (c0_1 : Nat) (l0_1 : List (S81)) (A0_2 : Option Addr) (c0_2 : Nat) (l0_2 : List Int) (A0_3 : Option Addr) (c0_3 : Nat) (l0_3 : List Bool) (A0_4 : Option Addr) (c0_4 : Nat) (l0_4 : List Int) (A0_5 : Option Addr) (c0_5 : Nat) (l0_5 : List Int) (a1 : Int) (r : Bool) (w : World) (hr0_0 : Kd.C k36 w A0_0 l0_0.length l0_0) (hc0_0 : l0_0.length ≤ c0_0) (hr0_1 : Kd.C k81 w A0_1 l0_1.length l0_1) (hc0_1 : l0_1.length ≤ c0_1) (hr0_2 : Kd.C (Kd.int .i64) w A0_2 l0_2.length l0_2) (hc0_2 : l0_2.length ≤ c0_2) (hr0_3 : Kd.C Kd.bool w A0_3 l0_3.length l0_3) (hc0_3 : l0_3.length ≤ c0_3) (hr0_4 : Kd.C (Kd.int .i64) w A0_4 l0_4.length l0_4) (hc0_4 : l0_4.length ≤ c0_4) (hr0_5 : Kd.C (Kd.int .i64) w A0_5 l0_5.length l0_5) (hc0_5 : l0_5.length ≤ c0_5) (h : domesdayref06_FS_Has.f l0_0 l0_1 l0_2 l0_3 l0_4 l0_5 a1 = some r) :
  Calls Try.prog 39 #[.agg #[.slice A0_0 l0_0.length c0_0, .slice A0_1 l0_1.length c0_1, .slice A0_2 l0_2.length c0_2, .slice A0_3 l0_3.length c0_3, .slice A0_4 l0_4.length c0_4, .slice A0_5 l0_5.length c0_5], .int .i64 a1] w fun e w' => e = .returned (.bool r) ∧ Below w.heap.size w w' := by
 have hu48 := Try.underlying48
 have HR0_0 := Aside0.mk hr0_0
 have HC0_0 := Aside0.mk hc0_0
 clear hr0_0 hc0_0
 have HR0_1 := Aside0.mk hr0_1
 have HC0_1 := Aside0.mk hc0_1
 clear hr0_1 hc0_1
 have HR0_2 := Aside0.mk hr0_2
 have HC0_2 := Aside0.mk hc0_2
 clear hr0_2 hc0_2
 have HR0_3 := Aside0.mk hr0_3
 have HC0_3 := Aside0.mk hc0_3
 clear hr0_3 hc0_3
 have HR0_4 := Aside0.mk hr0_4
 have HC0_4 := Aside0.mk hc0_4
 clear hr0_4 hc0_4
 have HR0_5 := Aside0.mk hr0_5
 have HC0_5 := Aside0.mk hc0_5
 clear hr0_5 hc0_5
 have HB := Aside0.mk (Below.refl w.heap.size w)
 have H : (if a1 ≥ 0 then (some (decide (a1 < (l0_0.length : Int)))) else (some false)) = some r := h
 clear h
 by_cases c3 : a1 ≥ 0
 ·rw [if_pos c3] at H
  have c3b0 : decide (0 ≤ a1) = true := decide_eq_true c3
  clear c3
  obtain rfl := Option.some.inj H
  go_enter Try.func39, Try.ntmps39
  go_wp2_with (first | ((with_reducible refine gate_dst (N := 2) rfl ?_); (try (refine gate_guard (by rfl) ?_; dsimp only)); refine box_event ?hg (N := 2) ?hd (cs := #[.slice A0_0 l0_0.length c0_0, .slice A0_1 l0_1.length c0_1, .slice A0_2 l0_2.length c0_2, .slice A0_3 l0_3.length c0_3, .slice A0_4 l0_4.length c0_4, .slice A0_5 l0_5.length c0_5]) (t := 48) ?hr ?_; (case hd => rfl); (case hg => rfl); (case hr => first | (go_simp; done) | (go_simp; rfl)); intro gb211 hg w4 hbox hb; have n0_ := Aside0.mk (below_step (by repeat (first | (with_reducible first | exact HB.out | apply below_alloc | apply pw_below_drewN | apply below_drew1) | exact HB.out)) hb); have n1_ := Aside0.mk (hbox); have n2_ := Aside0.mk ((by rw [hg]; exact (below_size (by repeat (first | (with_reducible first | exact HB.out | apply below_alloc | apply pw_below_drewN | apply below_drew1) | exact HB.out))) : w.heap.size ≤ gb211)); have n3_ := Aside0.mk ((by rw [hg]; exact (below_size (by repeat (first | (with_reducible first | exact HB.out | apply below_alloc | apply pw_below_drewN | apply below_drew1) | exact HB.out))) : w.heap.size ≤ gb211)); clear HB; have HB := n0_; have BK211 := n1_; have GW211 := n2_; have GE211 := n3_; clear n0_ n1_ n2_ n3_; clear hb hbox hg; have hcz5_0 : w4.cell? ⟨gb211, 0, none⟩ = some (.slice A0_0 l0_0.length c0_0) := (blk_cell BK211.out 0).trans rfl; have hcz5_1 : w4.cell? ⟨gb211, 1, none⟩ = some (.slice A0_1 l0_1.length c0_1) := (blk_cell BK211.out 1).trans rfl; have hcz5_2 : w4.cell? ⟨gb211, 2, none⟩ = some (.slice A0_2 l0_2.length c0_2) := (blk_cell BK211.out 2).trans rfl; have hcz5_3 : w4.cell? ⟨gb211, 3, none⟩ = some (.slice A0_3 l0_3.length c0_3) := (blk_cell BK211.out 3).trans rfl; have hcz5_4 : w4.cell? ⟨gb211, 4, none⟩ = some (.slice A0_4 l0_4.length c0_4) := (blk_cell BK211.out 4).trans rfl; have hcz5_5 : w4.cell? ⟨gb211, 5, none⟩ = some (.slice A0_5 l0_5.length c0_5) := (blk_cell BK211.out 5).trans rfl; have hfz5_0 := blk_frozen BK211.out 0; have hfz5_1 := blk_frozen BK211.out 1; have hfz5_2 := blk_frozen BK211.out 2; have hfz5_3 := blk_frozen BK211.out 3; have hfz5_4 := blk_frozen BK211.out 4; have hfz5_5 := blk_frozen BK211.out 5))
  go_ret
  exact ⟨by first | rfl | (simp [errW_none, errW_some] <;> rfl) | (simp [*, errW_none, errW_some] <;> rfl), by repeat (first | (with_reducible first | exact HB.out | apply below_alloc | apply pw_below_drewN | apply below_drew1 | refine below_set ?_ GE211.out) | exact HB.out)⟩
 ·rw [if_neg c3] at H
  have c3b0 : decide (0 ≤ a1) = false := decide_eq_false c3
  clear c3
  obtain rfl := Option.some.inj H
  go_enter Try.func39, Try.ntmps39
  go_wp2_with (first | ((with_reducible refine gate_dst (N := 2) rfl ?_); (try (refine gate_guard (by rfl) ?_; dsimp only)); refine box_event ?hg (N := 2) ?hd (cs := #[.slice A0_0 l0_0.length c0_0, .slice A0_1 l0_1.length c0_1, .slice A0_2 l0_2.length c0_2, .slice A0_3 l0_3.length c0_3, .slice A0_4 l0_4.length c0_4, .slice A0_5 l0_5.length c0_5]) (t := 48) ?hr ?_; (case hd => rfl); (case hg => rfl); (case hr => first | (go_simp; done) | (go_simp; rfl)); intro gb211 hg w6 hbox hb; have n0_ := Aside0.mk (below_step (by repeat (first | (with_reducible first | exact HB.out | apply below_alloc | apply pw_below_drewN | apply below_drew1) | exact HB.out)) hb); have n1_ := Aside0.mk (hbox); have n2_ := Aside0.mk ((by rw [hg]; exact (below_size (by repeat (first | (with_reducible first | exact HB.out | apply below_alloc | apply pw_below_drewN | apply below_drew1) | exact HB.out))) : w.heap.size ≤ gb211)); have n3_ := Aside0.mk ((by rw [hg]; exact (below_size (by repeat (first | (with_reducible first | exact HB.out | apply below_alloc | apply pw_below_drewN | apply below_drew1) | exact HB.out))) : w.heap.size ≤ gb211)); clear HB; have HB := n0_; have BK211 := n1_; have GW211 := n2_; have GE211 := n3_; clear n0_ n1_ n2_ n3_; clear hb hbox hg))
  go_ret
  exact ⟨by first | rfl | (simp [errW_none, errW_some] <;> rfl) | (simp [*, errW_none, errW_some] <;> rfl), by repeat (first | (with_reducible first | exact HB.out | apply below_alloc | apply pw_below_drewN | apply below_drew1 | refine below_set ?_ GE211.out) | exact HB.out)⟩
def domesdayref06_FS_first.l0 : Nat → Int → Int → List (S36) → List (S81) → List Int → List Bool → List Int → List Int → Option (Bool)
 | 0, _, _, _, _, _, _, _, _ => none
 | k + 1, x1, x5, x213000, x213001, x213002, x213003, x213004, x213005 => if x5 < (x213005.length : Int) then (if 0 ≤ x5 then (if (rd x213005 x5) = x1 then (some true) else (domesdayref06_FS_first.l0 k x1 (wrap64 (x5 + 1)) x213000 x213001 x213002 x213003 x213004 x213005)) else (none)) else (some false)
def domesdayref06_FS_first.f (k : Nat) (l0_0 : List (S36)) (l0_1 : List (S81)) (l0_2 : List Int) (l0_3 : List Bool) (l0_4 : List Int) (l0_5 : List Int) (a1 : Int) : Option (Bool) := domesdayref06_FS_first.l0 k a1 0 l0_0 l0_1 l0_2 l0_3 l0_4 l0_5
theorem domesdayref06_FS_first.mono_l : ∀ k, (∀ y0 y1 y2 y3 y4 y5 y6 y7, LeO (domesdayref06_FS_first.l0 k y0 y1 y2 y3 y4 y5 y6 y7) (domesdayref06_FS_first.l0 (k + 1) y0 y1 y2 y3 y4 y5 y6 y7))
 | 0 => fun _ _ _ _ _ _ _ _ r h => by simp [domesdayref06_FS_first.l0] at h
 | k + 1 => by
  have ih0 := domesdayref06_FS_first.mono_l k
  ·intro y0 y1 y2 y3 y4 y5 y6 y7
   unfold domesdayref06_FS_first.l0
   repeat' first
   | (with_reducible exact ih0 _ _ _ _ _ _ _ _)
   | (with_reducible exact LeO.refl _)
   | (with_reducible exact LeO.none _)
   | (with_reducible refine LeO.ite ?_ ?_)
   | (with_reducible refine LeO.bind ?_ (fun _ => ?_))
   | exact ih0 _ _ _ _ _ _ _ _
   | exact LeO.none _
   | refine LeO.ite ?_ ?_
   | refine LeO.bind ?_ (fun _ => ?_)
theorem domesdayref06_FS_first.mono : ∀ a0 a1 a2 a3 a4 a5 a6 k, LeO (domesdayref06_FS_first.f k a0 a1 a2 a3 a4 a5 a6) (domesdayref06_FS_first.f (k + 1) a0 a1 a2 a3 a4 a5 a6) := by
 intro a0 a1 a2 a3 a4 a5 a6 k
 have ih0 := domesdayref06_FS_first.mono_l k
 unfold domesdayref06_FS_first.f
 repeat' first
   | (with_reducible exact ih0 _ _ _ _ _ _ _ _)
   | (with_reducible exact LeO.refl _)
   | (with_reducible exact LeO.none _)
   | (with_reducible refine LeO.ite ?_ ?_)
   | (with_reducible refine LeO.bind ?_ (fun _ => ?_))
   | exact ih0 _ _ _ _ _ _ _ _
   | exact LeO.none _
   | refine LeO.ite ?_ ?_
   | refine LeO.bind ?_ (fun _ => ?_)
set_option maxHeartbeats 8000000 in
set_option maxRecDepth 100000 in
theorem domesdayref06_FS_first.calls (k : Nat) (A0_0 : Option Addr) (c0_0 : Nat) (l0_0 : List (S36)) (A0_1 : Option Addr) (c0_1 : Nat) (l0_1 : List (S81)) (A0_2 : Option Addr) (c0_2 : Nat) (l0_2 : List Int) (A0_3 : Option Addr) (c0_3 : Nat) (l0_3 : List Bool) (A0_4 : Option Addr) (c0_4 : Nat) (l0_4 : List Int) (A0_5 : Option Addr) (c0_5 : Nat) (l0_5 : List Int) (a1 : Int) (r : Bool) (w : World) (hr0_0 : Kd.C k36 w A0_0 l0_0.length l0_0) (hc0_0 : l0_0.length ≤ c0_0) (hr0_1 : Kd.C k81 w A0_1 l0_1.length l0_1) (hc0_1 : l0_1.length ≤ c0_1) (hr0_2 : Kd.C (Kd.int .i64) w A0_2 l0_2.length l0_2) (hc0_2 : l0_2.length ≤ c0_2) (hr0_3 : Kd.C Kd.bool w A0_3 l0_3.length l0_3) (hc0_3 : l0_3.length ≤ c0_3) (hr0_4 : Kd.C (Kd.int .i64) w A0_4 l0_4.length l0_4) (hc0_4 : l0_4.length ≤ c0_4) (hr0_5 : Kd.C (Kd.int .i64) w A0_5 l0_5.length l0_5) (hc0_5 : l0_5.length ≤ c0_5) (h : domesdayref06_FS_first.f k l0_0 l0_1 l0_2 l0_3 l0_4 l0_5 a1 = some r) :
  Calls Try.prog 56 #[.agg #[.slice A0_0 l0_0.length c0_0, .slice A0_1 l0_1.length c0_1, .slice A0_2 l0_2.length c0_2, .slice A0_3 l0_3.length c0_3, .slice A0_4 l0_4.length c0_4, .slice A0_5 l0_5.length c0_5], .int .i64 a1] w fun e w' => e = .returned (.bool r) ∧ Below w.heap.size w w' := by
 have hu48 := Try.underlying48
 have HR0_0 := Aside0.mk hr0_0
 have HC0_0 := Aside0.mk hc0_0
 clear hr0_0 hc0_0
 have HR0_1 := Aside0.mk hr0_1
 have HC0_1 := Aside0.mk hc0_1
 clear hr0_1 hc0_1
 have HR0_2 := Aside0.mk hr0_2
 have HC0_2 := Aside0.mk hc0_2
 clear hr0_2 hc0_2
 have HR0_3 := Aside0.mk hr0_3
 have HC0_3 := Aside0.mk hc0_3
 clear hr0_3 hc0_3
 have HR0_4 := Aside0.mk hr0_4
 have HC0_4 := Aside0.mk hc0_4
 clear hr0_4 hc0_4
 have HR0_5 := Aside0.mk hr0_5
 have HC0_5 := Aside0.mk hc0_5
 clear hr0_5 hc0_5
 have HB := Aside0.mk (Below.refl w.heap.size w)
 have H : (domesdayref06_FS_first.l0 k a1 0 l0_0 l0_1 l0_2 l0_3 l0_4 l0_5) = some r := h
 clear h
 have H' := Aside0.mk H
 clear H
 go_enter Try.func56, Try.ntmps56
 go_wp2_with (first | ((with_reducible refine gate_dst (N := 2) rfl ?_); refine box_event ?hg (N := 2) ?hd (cs := #[.slice A0_0 l0_0.length c0_0, .slice A0_1 l0_1.length c0_1, .slice A0_2 l0_2.length c0_2, .slice A0_3 l0_3.length c0_3, .slice A0_4 l0_4.length c0_4, .slice A0_5 l0_5.length c0_5]) (t := 48) ?hr ?_; (case hd => rfl); (case hg => rfl); (case hr => first | (go_simp; done) | (go_simp; rfl)); intro gb212 hg w3 hbox hb; have n0_ := Aside0.mk (below_step (by repeat (first | (with_reducible first | exact HB.out | apply below_alloc | apply pw_below_drewN | apply below_drew1) | exact HB.out)) hb); have n1_ := Aside0.mk (hbox); have n2_ := Aside0.mk ((by rw [hg]; exact (below_size (by repeat (first | (with_reducible first | exact HB.out | apply below_alloc | apply pw_below_drewN | apply below_drew1) | exact HB.out))) : w.heap.size ≤ gb212)); have n3_ := Aside0.mk ((by rw [hg]; exact (below_size (by repeat (first | (with_reducible first | exact HB.out | apply below_alloc | apply pw_below_drewN | apply below_drew1) | exact HB.out))) : w.heap.size ≤ gb212)); clear HB; have HB := n0_; have BK212 := n1_; have GW212 := n2_; have GE212 := n3_; clear n0_ n1_ n2_ n3_; clear hb hbox hg))
 go_loopg [5] k (fun kq v5 w' => ∃ (x5_1 : Int), v5 = .int .i64 x5_1 ∧ Aside0 (domesdayref06_FS_first.l0 kq a1 x5_1 l0_0 l0_1 l0_2 l0_3 l0_4 l0_5 = some r) ∧ Aside0 (kq ≤ k) ∧ Aside0 (w'.heap[gb212]? = some (.cells #[(.slice A0_0 l0_0.length c0_0), (.slice A0_1 l0_1.length c0_1), (.slice A0_2 l0_2.length c0_2), (.slice A0_3 l0_3.length c0_3), (.slice A0_4 l0_4.length c0_4), (.slice A0_5 l0_5.length c0_5)] 48 (0, 0))) ∧ Aside0 (Below w.heap.size w w'))
 case atStart => exact ⟨(0), (by first | rfl | (simp; done) | (simp [*]; done)), H', ⟨Nat.le_refl _⟩, ⟨by (with_reducible repeat (first | refine blk_drewN ?_ _ | refine blk_drew ?_ | refine blk_alloc ?_ _)); exact BK212.out⟩, ⟨by repeat (first | (with_reducible first | exact HB.out | apply below_alloc | apply pw_below_drewN | apply below_drew1 | refine below_set ?_ GE212.out) | exact HB.out)⟩⟩
 case round =>
  clear H'
  (try clear p2)
  obtain ⟨x5_1, rfl, HA, HK1, BK212, HB⟩ := hrel
  cases gk with
  | zero => exact absurd HA.out (by simp [domesdayref06_FS_first.l0])
  | succ k1 =>
   have H := HA.out
   clear HA
   simp only [domesdayref06_FS_first.l0] at H
   by_cases c4 : x5_1 < (l0_5.length : Int)
   ·rw [if_pos c4] at H
    have c4b0 : decide (x5_1 < (l0_5.length : Int)) = true := decide_eq_true c4
    clear c4
    by_cases c5 : 0 ≤ x5_1
    ·rw [if_pos c5] at H
     have c5b0 : decide (0 ≤ x5_1) = true := decide_eq_true c5
     clear c5
     by_cases c6 : (rd l0_5 x5_1) = a1
     ·rw [if_pos c6] at H
      have c6b0 : ((rd l0_5 x5_1) == a1) = true := beq_iff_eq.mpr c6
      have c6b1 : ((rd l0_5 x5_1) != a1) = false := bne_eq_false_iff_eq.mpr c6
      clear c6
      obtain rfl := Option.some.inj H
      have hcz7_0 : wr.cell? ⟨gb212, 0, none⟩ = some (.slice A0_0 l0_0.length c0_0) := (blk_cell BK212.out 0).trans rfl; have hcz7_1 : wr.cell? ⟨gb212, 1, none⟩ = some (.slice A0_1 l0_1.length c0_1) := (blk_cell BK212.out 1).trans rfl; have hcz7_2 : wr.cell? ⟨gb212, 2, none⟩ = some (.slice A0_2 l0_2.length c0_2) := (blk_cell BK212.out 2).trans rfl; have hcz7_3 : wr.cell? ⟨gb212, 3, none⟩ = some (.slice A0_3 l0_3.length c0_3) := (blk_cell BK212.out 3).trans rfl; have hcz7_4 : wr.cell? ⟨gb212, 4, none⟩ = some (.slice A0_4 l0_4.length c0_4) := (blk_cell BK212.out 4).trans rfl; have hcz7_5 : wr.cell? ⟨gb212, 5, none⟩ = some (.slice A0_5 l0_5.length c0_5) := (blk_cell BK212.out 5).trans rfl; have hfz7_0 := blk_frozen BK212.out 0; have hfz7_1 := blk_frozen BK212.out 1; have hfz7_2 := blk_frozen BK212.out 2; have hfz7_3 := blk_frozen BK212.out 3; have hfz7_4 := blk_frozen BK212.out 4; have hfz7_5 := blk_frozen BK212.out 5
      have p213 : 0 ≤ (x5_1 : Int) := of_decide_eq_true (by first | (with_reducible assumption) | assumption)
      have q213 : x5_1 < (l0_5.length : Int) := of_decide_eq_true (by first | (with_reducible assumption) | assumption)
      obtain ⟨ad213, e213, hx213_0⟩ := Kd.at_int HR0_5.out x5_1 p213 q213
      cases e213
      replace hx213_0 := (HB.out.cell (World.block_lt_of_cell? w _ hx213_0)).trans hx213_0
      replace p213 := eq_true p213
      replace q213 := eq_true q213
      go_wp2
      go_ret
      exact ⟨by first | rfl | (simp [errW_none, errW_some] <;> rfl) | (simp [*, errW_none, errW_some] <;> rfl), by repeat (first | (with_reducible first | exact HB.out | apply below_alloc | apply pw_below_drewN | apply below_drew1 | refine below_set ?_ GE212.out) | exact HB.out)⟩
     ·rw [if_neg c6] at H
      have c6b0 : ((rd l0_5 x5_1) == a1) = false := beq_eq_false_iff_ne.mpr c6
      have c6b1 : ((rd l0_5 x5_1) != a1) = true := bne_iff_ne.mpr c6
      have H' := Aside0.mk H
      clear H
      have hcz8_0 : wr.cell? ⟨gb212, 0, none⟩ = some (.slice A0_0 l0_0.length c0_0) := (blk_cell BK212.out 0).trans rfl; have hcz8_1 : wr.cell? ⟨gb212, 1, none⟩ = some (.slice A0_1 l0_1.length c0_1) := (blk_cell BK212.out 1).trans rfl; have hcz8_2 : wr.cell? ⟨gb212, 2, none⟩ = some (.slice A0_2 l0_2.length c0_2) := (blk_cell BK212.out 2).trans rfl; have hcz8_3 : wr.cell? ⟨gb212, 3, none⟩ = some (.slice A0_3 l0_3.length c0_3) := (blk_cell BK212.out 3).trans rfl; have hcz8_4 : wr.cell? ⟨gb212, 4, none⟩ = some (.slice A0_4 l0_4.length c0_4) := (blk_cell BK212.out 4).trans rfl; have hcz8_5 : wr.cell? ⟨gb212, 5, none⟩ = some (.slice A0_5 l0_5.length c0_5) := (blk_cell BK212.out 5).trans rfl; have hfz8_0 := blk_frozen BK212.out 0; have hfz8_1 := blk_frozen BK212.out 1; have hfz8_2 := blk_frozen BK212.out 2; have hfz8_3 := blk_frozen BK212.out 3; have hfz8_4 := blk_frozen BK212.out 4; have hfz8_5 := blk_frozen BK212.out 5
      have p213 : 0 ≤ (x5_1 : Int) := of_decide_eq_true (by first | (with_reducible assumption) | assumption)
      have q213 : x5_1 < (l0_5.length : Int) := of_decide_eq_true (by first | (with_reducible assumption) | assumption)
      obtain ⟨ad213, e213, hx213_0⟩ := Kd.at_int HR0_5.out x5_1 p213 q213
      cases e213
      replace hx213_0 := (HB.out.cell (World.block_lt_of_cell? w _ hx213_0)).trans hx213_0
      replace p213 := eq_true p213
      replace q213 := eq_true q213
      go_wp2
      go_roundg k1
      case measure => have := HK1.out; omega
      case rel => exact ⟨(wrap64 (x5_1 + 1)), (by first | rfl | (simp; done) | (simp [*]; done)), H', ⟨by have := HK1.out; omega⟩, ⟨by (with_reducible repeat (first | refine blk_drewN ?_ _ | refine blk_drew ?_ | refine blk_alloc ?_ _)); exact BK212.out⟩, ⟨by repeat (first | (with_reducible first | exact HB.out | apply below_alloc | apply pw_below_drewN | apply below_drew1 | refine below_set ?_ GE212.out) | exact HB.out)⟩⟩
    ·rw [if_neg c5] at H
     exact absurd H (by simp)
   ·rw [if_neg c4] at H
    have c4b0 : decide (x5_1 < (l0_5.length : Int)) = false := decide_eq_false c4
    clear c4
    obtain rfl := Option.some.inj H
    have hcz9_0 : wr.cell? ⟨gb212, 0, none⟩ = some (.slice A0_0 l0_0.length c0_0) := (blk_cell BK212.out 0).trans rfl; have hcz9_1 : wr.cell? ⟨gb212, 1, none⟩ = some (.slice A0_1 l0_1.length c0_1) := (blk_cell BK212.out 1).trans rfl; have hcz9_2 : wr.cell? ⟨gb212, 2, none⟩ = some (.slice A0_2 l0_2.length c0_2) := (blk_cell BK212.out 2).trans rfl; have hcz9_3 : wr.cell? ⟨gb212, 3, none⟩ = some (.slice A0_3 l0_3.length c0_3) := (blk_cell BK212.out 3).trans rfl; have hcz9_4 : wr.cell? ⟨gb212, 4, none⟩ = some (.slice A0_4 l0_4.length c0_4) := (blk_cell BK212.out 4).trans rfl; have hcz9_5 : wr.cell? ⟨gb212, 5, none⟩ = some (.slice A0_5 l0_5.length c0_5) := (blk_cell BK212.out 5).trans rfl; have hfz9_0 := blk_frozen BK212.out 0; have hfz9_1 := blk_frozen BK212.out 1; have hfz9_2 := blk_frozen BK212.out 2; have hfz9_3 := blk_frozen BK212.out 3; have hfz9_4 := blk_frozen BK212.out 4; have hfz9_5 := blk_frozen BK212.out 5
    go_wp2
    go_ret
    exact ⟨by first | rfl | (simp [errW_none, errW_some] <;> rfl) | (simp [*, errW_none, errW_some] <;> rfl), by repeat (first | (with_reducible first | exact HB.out | apply below_alloc | apply pw_below_drewN | apply below_drew1 | refine below_set ?_ GE212.out) | exact HB.out)⟩
def domesdayref06_FS_Over.f (l0_0 : List (S36)) (l0_1 : List (S81)) (l0_2 : List Int) (l0_3 : List Bool) (l0_4 : List Int) (l0_5 : List Int) (a1 : Int) : Option (Int) := (domesdayref06_FS_Has.f l0_0 l0_1 l0_2 l0_3 l0_4 l0_5 a1).bind fun t282 => (if t282 = true then (if 0 ≤ a1 then (if a1 < (l0_2.length : Int) then (if (rd l0_2 a1) ≥ 0 then (some (rd l0_2 a1)) else (some a1)) else (none)) else (none)) else (some a1))
def domesdayref06_FS_Up.f (l0_0 : List (S36)) (l0_1 : List (S81)) (l0_2 : List Int) (l0_3 : List Bool) (l0_4 : List Int) (l0_5 : List Int) (a1 : Int) : Option (Int) := (domesdayref06_FS_Has.f l0_0 l0_1 l0_2 l0_3 l0_4 l0_5 a1).bind fun t296 => (if t296 = true then (if 0 ≤ a1 then (if a1 < (l0_4.length : Int) then (some (rd l0_4 a1)) else (none)) else (none)) else (some (-1)))
def domesdayref06_FS_Link.f (l0_0 : List (S36)) (l0_1 : List (S81)) (l0_2 : List Int) (l0_3 : List Bool) (l0_4 : List Int) (l0_5 : List Int) (a1 : Int) : Option (ByteArray × Int) := (domesdayref06_FS_Has.f l0_0 l0_1 l0_2 l0_3 l0_4 l0_5 a1).bind fun t272 => (if t272 = true then (if 0 ≤ a1 then (if a1 < (l0_0.length : Int) then (if ((rd_T36 l0_0 a1).f2) = 3 then (if a1 < (l0_3.length : Int) then (if rdOf false l0_3 a1 = true then (some ((⟨#[]⟩ : ByteArray), 8)) else (some ((rd_T36 l0_0 a1).f10, 0))) else (none)) else (some ((⟨#[]⟩ : ByteArray), 1))) else (none)) else (none)) else (some ((⟨#[]⟩ : ByteArray), 2)))
def domesdayref06_Same.l0 : Nat → List (S61) → List (S61) → Int → Option (Bool)
 | 0, _, _, _ => none
 | k + 1, x0, x1, x5 => if x5 < (x0.length : Int) then (if 0 ≤ x5 then (if x5 < (x1.length : Int) then (if (!((((rd_T61 x0 x5).f0).toList) == (((rd_T61 x1 x5).f0).toList)) || (!(((rd_T61 x0 x5).f1) == ((rd_T61 x1 x5).f1)))) = true then (some false) else (domesdayref06_Same.l0 k x0 x1 (wrap64 (x5 + 1)))) else (none)) else (none)) else (some true)
def domesdayref06_Same.f (k : Nat) (l0 : List (S61)) (l1 : List (S61)) : Option (Bool) := if (l0.length : Int) = (l1.length : Int) then (domesdayref06_Same.l0 k l0 l1 0) else (some false)
theorem domesdayref06_Same.mono_l : ∀ k, (∀ y0 y1 y2, LeO (domesdayref06_Same.l0 k y0 y1 y2) (domesdayref06_Same.l0 (k + 1) y0 y1 y2))
 | 0 => fun _ _ _ r h => by simp [domesdayref06_Same.l0] at h
 | k + 1 => by
  have ih0 := domesdayref06_Same.mono_l k
  ·intro y0 y1 y2
   unfold domesdayref06_Same.l0
   repeat' first
   | (with_reducible exact ih0 _ _ _)
   | (with_reducible exact LeO.refl _)
   | (with_reducible exact LeO.none _)
   | (with_reducible refine LeO.ite ?_ ?_)
   | (with_reducible refine LeO.bind ?_ (fun _ => ?_))
   | exact ih0 _ _ _
   | exact LeO.none _
   | refine LeO.ite ?_ ?_
   | refine LeO.bind ?_ (fun _ => ?_)
theorem domesdayref06_Same.mono : ∀ a0 a1 k, LeO (domesdayref06_Same.f k a0 a1) (domesdayref06_Same.f (k + 1) a0 a1) := by
 intro a0 a1 k
 have ih0 := domesdayref06_Same.mono_l k
 unfold domesdayref06_Same.f
 repeat' first
   | (with_reducible exact ih0 _ _ _)
   | (with_reducible exact LeO.refl _)
   | (with_reducible exact LeO.none _)
   | (with_reducible refine LeO.ite ?_ ?_)
   | (with_reducible refine LeO.bind ?_ (fun _ => ?_))
   | exact ih0 _ _ _
   | exact LeO.none _
   | refine LeO.ite ?_ ?_
   | refine LeO.bind ?_ (fun _ => ?_)
end Go.Proofs.Ytlfldoghomnbkaa.QVfs
