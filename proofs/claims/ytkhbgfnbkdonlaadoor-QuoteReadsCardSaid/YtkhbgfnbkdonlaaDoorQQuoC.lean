-- Made by a program of this session.
import Derived.Test.YtkhbgfnbkdonlaaDoorQQuo1
namespace Go.Proofs.YtkhbgfnbkdonlaaDoor.QQuo
open Go.RowKit Go.Proofs.YtkhbgfnbkdonlaaDoorW.PrintWords Go.Proofs.YtkhbgfnbkdonlaaDoorW.PrintLast Go.Proofs.YtkhbgfnbkdonlaaDoorW.PrintMore
attribute [local go_sem] max2_int min2_int max_two min_two max_three min_three max_four min_four   -- for this text's walks alone
set_option linter.unusedVariables false
set_option linter.unusedSimpArgs false

-- proved elsewhere: function 30 (utf8_DecodeRuneInString)

-- proved elsewhere: function 27 (strings_IndexByte)

/-! ### quote_C: function 14 -/
mutual
def quote_C.j0 : Nat → ByteArray → Bool → Option (ByteArray × Bool)
 | 0, _, _ => none
 | k + 1, x0, x25 => if x25 = true then (some ((⟨#[]⟩ : ByteArray), false)) else (if 1 ≤ (wrap64 ((x0.size : Int) - 1)) then (if (wrap64 ((x0.size : Int) - 1)) ≤ (x0.size : Int) then (quote_C.l0 k ([] : List Int) (x0.extract 1 ((wrap64 ((x0.size : Int) - 1)) : Int).toNat) 0) else (none)) else (none))
def quote_C.l0 : Nat → List Int → ByteArray → Int → Option (ByteArray × Bool)
 | 0, _, _, _ => none
 | k + 1, x4, x5, x6 => if x6 < (x5.size : Int) then (if 0 ≤ x6 then (if (bt x5 x6) = 34 then (some ((⟨#[]⟩ : ByteArray), false)) else (if (bt x5 x6) = 92 then (if 0 ≤ (wrap64 (x6 + 1)) then (if (wrap64 (x6 + 1)) ≤ (x5.size : Int) then ((quote_unescape.f (x5.extract ((wrap64 (x6 + 1)) : Int).toNat x5.size)).bind fun bt173 => (if (x5.extract ((wrap64 (x6 + 1)) : Int).toNat x5.size).toList = ([] : List UInt8) then (quote_C.j2 k x4 x5 x6 (x5.extract ((wrap64 (x6 + 1)) : Int).toNat x5.size) bt173.1 bt173.2 false) else (if 0 < ((x5.extract ((wrap64 (x6 + 1)) : Int).toNat x5.size).size : Int) then (if (bt (x5.extract ((wrap64 (x6 + 1)) : Int).toNat x5.size) 0) = 34 then (quote_C.j2 k x4 x5 x6 (x5.extract ((wrap64 (x6 + 1)) : Int).toNat x5.size) bt173.1 bt173.2 true) else (quote_C.j2 k x4 x5 x6 (x5.extract ((wrap64 (x6 + 1)) : Int).toNat x5.size) bt173.1 bt173.2 ((bt (x5.extract ((wrap64 (x6 + 1)) : Int).toNat x5.size) 0) == 92))) else (none)))) else (none)) else (none)) else (if x4.length < 140737488355328 then (quote_C.l0 k (x4 ++ [bt x5 x6]) x5 (wrap64 (x6 + 1))) else (none)))) else (none)) else (some (strOfNums x4, true))
def quote_C.j2 : Nat → List Int → ByteArray → Int → ByteArray → Int → Int → Bool → Option (ByteArray × Bool)
 | 0, _, _, _, _, _, _, _ => none
 | k + 1, x4, x5, x6, x7, x8, x9, x71 => if x71 = true then (if 0 < (x7.size : Int) then (if 1 = 0 then (some ((⟨#[]⟩ : ByteArray), false)) else (if x4.length < 140737488355328 then (quote_C.l0 k (x4 ++ [bt x7 0]) x5 (wrap64 (x6 + (1 + 1)))) else (none))) else (none)) else (if x9 = 0 then (some ((⟨#[]⟩ : ByteArray), false)) else (if x4.length < 140737488355328 then (quote_C.l0 k (x4 ++ [x8]) x5 (wrap64 (x6 + (wrap64 (x9 + 1))))) else (none)))
end
def quote_C.f (k : Nat) (a0 : ByteArray) : Option (ByteArray × Bool) := if (a0.size : Int) < 2 then (quote_C.j0 k a0 true) else (if 0 < (a0.size : Int) then (if (bt a0 0) = 34 then (if 0 ≤ (wrap64 ((a0.size : Int) - 1)) then (if (wrap64 ((a0.size : Int) - 1)) < (a0.size : Int) then (quote_C.j0 k a0 ((bt a0 (wrap64 ((a0.size : Int) - 1))) != 34)) else (none)) else (none)) else (quote_C.j0 k a0 true)) else (none))
theorem quote_C.mono_l : ∀ k, (∀ y0 y1, LeO (quote_C.j0 k y0 y1) (quote_C.j0 (k + 1) y0 y1)) ∧ (∀ y0 y1 y2, LeO (quote_C.l0 k y0 y1 y2) (quote_C.l0 (k + 1) y0 y1 y2)) ∧ (∀ y0 y1 y2 y3 y4 y5 y6, LeO (quote_C.j2 k y0 y1 y2 y3 y4 y5 y6) (quote_C.j2 (k + 1) y0 y1 y2 y3 y4 y5 y6))
 | 0 => ⟨fun _ _ r h => by simp [quote_C.j0] at h, fun _ _ _ r h => by simp [quote_C.l0] at h, fun _ _ _ _ _ _ _ r h => by simp [quote_C.j2] at h⟩
 | k + 1 => by
  obtain ⟨ih0, ih1, ih2⟩ := quote_C.mono_l k
  refine ⟨?_, ?_, ?_⟩
  ·intro y0 y1
   unfold quote_C.j0
   repeat' first
   | (with_reducible exact ih0 _ _)
   | (with_reducible exact ih1 _ _ _)
   | (with_reducible exact ih2 _ _ _ _ _ _ _)
   | (with_reducible exact LeO.refl _)
   | (with_reducible exact LeO.none _)
   | (with_reducible refine LeO.ite ?_ ?_)
   | (with_reducible refine LeO.bind ?_ (fun _ => ?_))
   | exact ih0 _ _
   | exact ih1 _ _ _
   | exact ih2 _ _ _ _ _ _ _
   | exact LeO.none _
   | refine LeO.ite ?_ ?_
   | refine LeO.bind ?_ (fun _ => ?_)
  ·intro y0 y1 y2
   unfold quote_C.l0
   repeat' first
   | (with_reducible exact ih0 _ _)
   | (with_reducible exact ih1 _ _ _)
   | (with_reducible exact ih2 _ _ _ _ _ _ _)
   | (with_reducible exact LeO.refl _)
   | (with_reducible exact LeO.none _)
   | (with_reducible refine LeO.ite ?_ ?_)
   | (with_reducible refine LeO.bind ?_ (fun _ => ?_))
   | exact ih0 _ _
   | exact ih1 _ _ _
   | exact ih2 _ _ _ _ _ _ _
   | exact LeO.none _
   | refine LeO.ite ?_ ?_
   | refine LeO.bind ?_ (fun _ => ?_)
  ·intro y0 y1 y2 y3 y4 y5 y6
   unfold quote_C.j2
   repeat' first
   | (with_reducible exact ih0 _ _)
   | (with_reducible exact ih1 _ _ _)
   | (with_reducible exact ih2 _ _ _ _ _ _ _)
   | (with_reducible exact LeO.refl _)
   | (with_reducible exact LeO.none _)
   | (with_reducible refine LeO.ite ?_ ?_)
   | (with_reducible refine LeO.bind ?_ (fun _ => ?_))
   | exact ih0 _ _
   | exact ih1 _ _ _
   | exact ih2 _ _ _ _ _ _ _
   | exact LeO.none _
   | refine LeO.ite ?_ ?_
   | refine LeO.bind ?_ (fun _ => ?_)
theorem quote_C.mono : ∀ a0 k, LeO (quote_C.f k a0) (quote_C.f (k + 1) a0) := by
 intro a0 k
 obtain ⟨ih0, ih1, ih2⟩ := quote_C.mono_l k
 unfold quote_C.f
 repeat' first
   | (with_reducible exact ih0 _ _)
   | (with_reducible exact ih1 _ _ _)
   | (with_reducible exact ih2 _ _ _ _ _ _ _)
   | (with_reducible exact LeO.refl _)
   | (with_reducible exact LeO.none _)
   | (with_reducible refine LeO.ite ?_ ?_)
   | (with_reducible refine LeO.bind ?_ (fun _ => ?_))
   | exact ih0 _ _
   | exact ih1 _ _ _
   | exact ih2 _ _ _ _ _ _ _
   | exact LeO.none _
   | refine LeO.ite ?_ ?_
   | refine LeO.bind ?_ (fun _ => ?_)
set_option maxHeartbeats 8000000 in
set_option maxRecDepth 100000 in
theorem quote_C.calls (k : Nat) (a0 : ByteArray) (r1 : ByteArray) (r2 : Bool) (w : World) (h : quote_C.f k a0 = some (r1, r2)) :
  Calls Tryd.prog 14 #[.string a0] w fun e w' => e = .returned (.tuple #[.string r1, .bool r2]) ∧ Below w.heap.size w w' := by
 have HB := Aside0.mk (Below.refl w.heap.size w)
 have H : (if (a0.size : Int) < 2 then (quote_C.j0 k a0 true) else (if 0 < (a0.size : Int) then (if (bt a0 0) = 34 then (if 0 ≤ (wrap64 ((a0.size : Int) - 1)) then (if (wrap64 ((a0.size : Int) - 1)) < (a0.size : Int) then (quote_C.j0 k a0 ((bt a0 (wrap64 ((a0.size : Int) - 1))) != 34)) else (none)) else (none)) else (quote_C.j0 k a0 true)) else (none))) = some (r1, r2) := h
 clear h
 have HC2 := Aside0.mk H
 clear H
 go_enter Tryd.func14, Tryd.ntmps14
 go_upto_region 1 with (fail)
 go_cut [25] (fun v25 wc => ∃ (kq : Nat) (x25_1 : Bool), v25 = .bool x25_1 ∧ Aside0 (quote_C.j0 kq a0 x25_1 = some (r1, r2)) ∧ Aside0 (kq ≤ k) ∧ Aside0 (Below w.heap.size w wc))
 case first =>
  have H := HC2.out
  clear HC2
  by_cases c3 : (a0.size : Int) < 2
  ·rw [if_pos c3] at H
   have c3b0 : decide ((a0.size : Int) < 2) = true := decide_eq_true c3
   have c3b1 : decide (a0.size < 2) = true := decide_eq_true (by omega)
   clear c3
   (first | rw [c3b0] | (simp only [i64_w, i32_w]; rw [c3b0]) | skip)
   have H' := Aside0.mk H
   clear H
   go_wp2
   go_meet
   case rel => exact ⟨_, (true), (by first | rfl | (simp; done) | (simp [*]; done)), H', ⟨by first | omega | exact Nat.le_refl _⟩, ⟨by repeat (first | (with_reducible first | exact HB.out | apply below_alloc | apply pw_below_drewN | apply below_drew1) | exact HB.out)⟩⟩
  ·rw [if_neg c3] at H
   have c3b0 : decide ((a0.size : Int) < 2) = false := decide_eq_false c3
   have c3b1 : decide (a0.size < 2) = false := decide_eq_false (by omega)
   clear c3
   (first | rw [c3b0] | (simp only [i64_w, i32_w]; rw [c3b0]) | skip)
   by_cases c4 : 0 < (a0.size : Int)
   ·rw [if_pos c4] at H
    have c4b0 : decide (0 < (a0.size : Int)) = true := decide_eq_true c4
    have c4b1 : decide (0 < a0.size) = true := decide_eq_true (by omega)
    clear c4
    by_cases c6 : (bt a0 0) = 34
    ·rw [if_pos c6] at H
     have c6b0 : ((bt a0 0) == 34) = true := beq_iff_eq.mpr c6
     have c6b1 : ((bt a0 0) != 34) = false := bne_eq_false_iff_eq.mpr c6
     clear c6
     obtain ⟨ji7, hji7⟩ : ∃ j_ : Int, (wrap64 ((a0.size : Int) - 1)) = j_ := ⟨_, rfl⟩
     replace H : (if 0 ≤ (ji7) then (if (ji7) < (a0.size : Int) then (quote_C.j0 k a0 ((bt a0 (ji7)) != 34)) else (none)) else (none)) = some (r1, r2) := by first | (rw [hji7] at H; exact H) | (simp only [hji7] at H ⊢; exact H)
     have hji7w : (IntKind.i64.wrap ((a0.size : Int) - 1)) = ji7 := (i64_w _).trans hji7
     by_cases c8 : 0 ≤ (ji7)
     ·rw [if_pos c8] at H
      have c8b0 : decide (0 ≤ (ji7)) = true := decide_eq_true c8
      clear c8
      by_cases c9 : (ji7) < (a0.size : Int)
      ·rw [if_pos c9] at H
       have c9b0 : decide ((ji7) < (a0.size : Int)) = true := decide_eq_true c9
       clear c9
       have H' := Aside0.mk H
       clear H
       have p5 : 0 ≤ (0 : Int) := (by omega)
       have q5 : 0 < a0.size := (by have : (0 : Int) < (a0.size : Int) := of_decide_eq_true (by first | (with_reducible assumption) | assumption); omega)
       have hx5 : ∀ h : 0 < a0.size, ((a0[0]'h).toNat : Int) = bt a0 0 := bt_at a0 0
       clear p5
       have qi5 : (0 < (a0.size : Int)) = True := eq_true (of_decide_eq_true (by first | (with_reducible assumption) | assumption))
       replace q5 := eq_true q5
       have p10 : 0 ≤ ((ji7) : Int) := of_decide_eq_true (by first | (with_reducible assumption) | assumption)
       have q10 : (ji7) < (a0.size : Int) := of_decide_eq_true (by first | (with_reducible assumption) | assumption)
       have hx10 := bt_at a0 (ji7)
       replace p10 := eq_true p10
       replace q10 := eq_true q10
       go_wp2
       go_meet
       case rel => exact ⟨_, (((bt a0 (ji7)) != 34)), (by first | rfl | (simp; done) | (simp only [← hji7] <;> (first | rfl | simp)) | (simp [*]; done)), H', ⟨by first | omega | exact Nat.le_refl _⟩, ⟨by repeat (first | (with_reducible first | exact HB.out | apply below_alloc | apply pw_below_drewN | apply below_drew1) | exact HB.out)⟩⟩
      ·rw [if_neg c9] at H
       exact absurd H (by simp)
     ·rw [if_neg c8] at H
      exact absurd H (by simp)
    ·rw [if_neg c6] at H
     have c6b0 : ((bt a0 0) == 34) = false := beq_eq_false_iff_ne.mpr c6
     have c6b1 : ((bt a0 0) != 34) = true := bne_iff_ne.mpr c6
     have H' := Aside0.mk H
     clear H
     have p5 : 0 ≤ (0 : Int) := (by omega)
     have q5 : 0 < a0.size := (by have : (0 : Int) < (a0.size : Int) := of_decide_eq_true (by first | (with_reducible assumption) | assumption); omega)
     have hx5 : ∀ h : 0 < a0.size, ((a0[0]'h).toNat : Int) = bt a0 0 := bt_at a0 0
     clear p5
     have qi5 : (0 < (a0.size : Int)) = True := eq_true (of_decide_eq_true (by first | (with_reducible assumption) | assumption))
     replace q5 := eq_true q5
     go_wp2
     go_meet
     case rel => exact ⟨_, (true), (by first | rfl | (simp; done) | (simp [*]; done)), H', ⟨by first | omega | exact Nat.le_refl _⟩, ⟨by repeat (first | (with_reducible first | exact HB.out | apply below_alloc | apply pw_below_drewN | apply below_drew1) | exact HB.out)⟩⟩
   ·rw [if_neg c4] at H
    exact absurd H (by simp)
 case rest =>
  clear HC2
  (try clear c1); (try clear p1); (try clear q1); (try clear hx1); (try clear p2); (try clear c3); (try clear c3b0); (try clear c3b1); (try clear c4); (try clear c4b0); (try clear c4b1); (try clear p5); (try clear q5); (try clear hx5); (try clear qi5); (try clear c6); (try clear c6b0); (try clear c6b1); (try clear p6); (try clear c8); (try clear c8b0); (try clear c9); (try clear c9b0); (try clear p10); (try clear q10); (try clear hx10); (try clear p10); (try clear p5); (try clear q10); (try clear q5)
  obtain ⟨kq, x25_1, rfl, HA, HJ1, HB⟩ := hcut
  cases kq with
  | zero => exact absurd HA.out (by simp [quote_C.j0])
  | succ kj1 =>
   have H := HA.out
   clear HA
   simp only [quote_C.j0] at H
   by_cases c11 : x25_1 = true
   ·subst c11
    have H1 : (some ((⟨#[]⟩ : ByteArray), false)) = some (r1, r2) := by rw [if_pos rfl] at H; exact H
    clear H
    have H := H1
    clear H1
    simp only [Option.some.injEq, Prod.mk.injEq] at H
    obtain ⟨rfl, rfl⟩ := H
    go_wp2
    go_ret2
    exact ⟨by first | rfl | (simp [errW_none, errW_some] <;> rfl) | (simp [*, errW_none, errW_some] <;> rfl), by repeat (first | (with_reducible first | exact HB.out | apply below_alloc | apply pw_below_drewN | apply below_drew1) | exact HB.out)⟩
   ·replace c11 := Bool.eq_false_iff.mpr c11
    subst c11
    have H1 : (if 1 ≤ (wrap64 ((a0.size : Int) - 1)) then (if (wrap64 ((a0.size : Int) - 1)) ≤ (a0.size : Int) then (quote_C.l0 kj1 ([] : List Int) (a0.extract 1 ((wrap64 ((a0.size : Int) - 1)) : Int).toNat) 0) else (none)) else (none)) = some (r1, r2) := by rw [if_neg (show ¬ (false = true) by decide)] at H; exact H
    clear H
    have H := H1
    clear H1
    by_cases c12 : 1 ≤ (wrap64 ((a0.size : Int) - 1))
    ·rw [if_pos c12] at H
     have c12b0 := eq_true c12
     have c12b1 : decide (1 ≤ (wrap64 ((a0.size : Int) - 1))) = true := decide_eq_true c12
     clear c12
     by_cases c13 : (wrap64 ((a0.size : Int) - 1)) ≤ (a0.size : Int)
     ·rw [if_pos c13] at H
      have c13b0 := eq_true c13
      have c13b1 : decide ((wrap64 ((a0.size : Int) - 1)) ≤ (a0.size : Int)) = true := decide_eq_true c13
      clear c13
      have H' := Aside0.mk H
      clear H
      go_wp2
      generalize (a0.extract 1 ((wrap64 ((a0.size : Int) - 1)) : Int).toNat) = y0_ at H' ⊢
      go_loopg [4, 6] kj1 (fun kq v4 v6 w' => ∃ (x4_2 : List Int) (x6_2 : Int), v6 = .int .i64 x6_2 ∧ Aside0 (quote_C.l0 kq x4_2 y0_ x6_2 = some (r1, r2)) ∧ Aside0 (kq ≤ kj1) ∧ Aside0 (Kd.R (Kd.int .u8) 5 w' w.heap.size (fun _ => True) v4 x4_2) ∧ Aside0 (Below w.heap.size w w'))
      case atStart => exact ⟨(([] : List Int)), (0), (by first | rfl | (simp; done) | (simp [*]; done)), H', ⟨Nat.le_refl _⟩, ⟨by first | exact Kd.R_nil _ _ _ _ _ | exact Kd.N_nil _ _ _ _ _ | exact Kd.V_nil _ _ _ _ _ | exact Kd.Q_nil _ _ _ _ _ | exact Kd.S_nil _ _ _ _ _⟩, ⟨by repeat (first | (with_reducible first | exact HB.out | apply below_alloc | apply pw_below_drewN | apply below_drew1) | exact HB.out)⟩⟩
      case round =>
       clear H'
       (try clear c1); (try clear p1); (try clear q1); (try clear hx1); (try clear p2); (try clear c3); (try clear c3b0); (try clear c3b1); (try clear c4); (try clear c4b0); (try clear c4b1); (try clear p5); (try clear q5); (try clear hx5); (try clear qi5); (try clear c6); (try clear c6b0); (try clear c6b1); (try clear p6); (try clear c8); (try clear c8b0); (try clear c9); (try clear c9b0); (try clear p10); (try clear q10); (try clear hx10); (try clear c11); (try clear c12); (try clear c12b0); (try clear c12b1); (try clear c13); (try clear c13b0); (try clear c13b1); (try clear p1); (try clear p10); (try clear p2); (try clear p5); (try clear p6); (try clear q1); (try clear q10); (try clear q5)
       obtain ⟨x4_2, x6_2, rfl, HA, HK2, HO_4, HB⟩ := hrel
       cases gk with
       | zero => exact absurd HA.out (by simp [quote_C.l0])
       | succ k2 =>
        have H := HA.out
        clear HA
        simp only [quote_C.l0] at H
        by_cases c14 : x6_2 < (y0_.size : Int)
        ·rw [if_pos c14] at H
         have c14b0 : decide (x6_2 < (y0_.size : Int)) = true := decide_eq_true c14
         clear c14
         by_cases c15 : 0 ≤ x6_2
         ·rw [if_pos c15] at H
          have c15b0 : decide (0 ≤ x6_2) = true := decide_eq_true c15
          clear c15
          by_cases c17 : (bt y0_ x6_2) = 34
          ·rw [if_pos c17] at H
           have c17b0 : ((bt y0_ x6_2) == 34) = true := beq_iff_eq.mpr c17
           have c17b1 : ((bt y0_ x6_2) != 34) = false := bne_eq_false_iff_eq.mpr c17
           clear c17
           simp only [Option.some.injEq, Prod.mk.injEq] at H
           obtain ⟨rfl, rfl⟩ := H
           have p16 : 0 ≤ (x6_2 : Int) := of_decide_eq_true (by first | (with_reducible assumption) | assumption)
           have q16 : x6_2 < (y0_.size : Int) := of_decide_eq_true (by first | (with_reducible assumption) | assumption)
           have hx16 := bt_at y0_ x6_2
           replace p16 := eq_true p16
           replace q16 := eq_true q16
           go_wp2
           go_ret2
           exact ⟨by first | rfl | (simp [errW_none, errW_some] <;> rfl) | (simp [*, errW_none, errW_some] <;> rfl), by repeat (first | (with_reducible first | exact HB.out | apply below_alloc | apply pw_below_drewN | apply below_drew1) | exact HB.out)⟩
          ·rw [if_neg c17] at H
           have c17b0 : ((bt y0_ x6_2) == 34) = false := beq_eq_false_iff_ne.mpr c17
           have c17b1 : ((bt y0_ x6_2) != 34) = true := bne_iff_ne.mpr c17
           by_cases c19 : (bt y0_ x6_2) = 92
           ·rw [if_pos c19] at H
            have c19b0 : ((bt y0_ x6_2) == 92) = true := beq_iff_eq.mpr c19
            have c19b1 : ((bt y0_ x6_2) != 92) = false := bne_eq_false_iff_eq.mpr c19
            clear c19
            obtain ⟨ji20, hji20⟩ : ∃ j_ : Int, (wrap64 (x6_2 + 1)) = j_ := ⟨_, rfl⟩
            replace H : (if 0 ≤ (ji20) then (if (ji20) ≤ (y0_.size : Int) then ((quote_unescape.f (y0_.extract ((ji20) : Int).toNat y0_.size)).bind fun bt173 => (if (y0_.extract ((ji20) : Int).toNat y0_.size).toList = ([] : List UInt8) then (quote_C.j2 k2 x4_2 y0_ x6_2 (y0_.extract ((ji20) : Int).toNat y0_.size) bt173.1 bt173.2 false) else (if 0 < ((y0_.extract ((ji20) : Int).toNat y0_.size).size : Int) then (if (bt (y0_.extract ((ji20) : Int).toNat y0_.size) 0) = 34 then (quote_C.j2 k2 x4_2 y0_ x6_2 (y0_.extract ((ji20) : Int).toNat y0_.size) bt173.1 bt173.2 true) else (quote_C.j2 k2 x4_2 y0_ x6_2 (y0_.extract ((ji20) : Int).toNat y0_.size) bt173.1 bt173.2 ((bt (y0_.extract ((ji20) : Int).toNat y0_.size) 0) == 92))) else (none)))) else (none)) else (none)) = some (r1, r2) := by first | (rw [hji20] at H; exact H) | (simp only [hji20] at H ⊢; exact H)
            have hji20w : (IntKind.i64.wrap (x6_2 + 1)) = ji20 := (i64_w _).trans hji20
            by_cases c21 : 0 ≤ (ji20)
            ·rw [if_pos c21] at H
             have c21b0 := eq_true c21
             have c21b1 : decide (0 ≤ (ji20)) = true := decide_eq_true c21
             clear c21
             by_cases c22 : (ji20) ≤ (y0_.size : Int)
             ·rw [if_pos c22] at H
              have c22b0 := eq_true c22
              have c22b1 : decide ((ji20) ≤ (y0_.size : Int)) = true := decide_eq_true c22
              clear c22
              replace H := Option.bind_eq_some_iff.mp H
              obtain ⟨⟨t173, t174⟩, A230, H⟩ := H
              replace H : (if (y0_.extract ((ji20) : Int).toNat y0_.size).toList = ([] : List UInt8) then (quote_C.j2 k2 x4_2 y0_ x6_2 (y0_.extract ((ji20) : Int).toNat y0_.size) t173 t174 false) else (if 0 < ((y0_.extract ((ji20) : Int).toNat y0_.size).size : Int) then (if (bt (y0_.extract ((ji20) : Int).toNat y0_.size) 0) = 34 then (quote_C.j2 k2 x4_2 y0_ x6_2 (y0_.extract ((ji20) : Int).toNat y0_.size) t173 t174 true) else (quote_C.j2 k2 x4_2 y0_ x6_2 (y0_.extract ((ji20) : Int).toNat y0_.size) t173 t174 ((bt (y0_.extract ((ji20) : Int).toNat y0_.size) 0) == 92))) else (none))) = some (r1, r2) := H
              have A23 := Aside0.mk A230
              clear A230
              have HC24 := Aside0.mk H
              clear H
              have p16 : 0 ≤ (x6_2 : Int) := of_decide_eq_true (by first | (with_reducible assumption) | assumption)
              have q16 : x6_2 < (y0_.size : Int) := of_decide_eq_true (by first | (with_reducible assumption) | assumption)
              have hx16 := bt_at y0_ x6_2
              replace p16 := eq_true p16
              replace q16 := eq_true q16
              have p18 : 0 ≤ (x6_2 : Int) := of_decide_eq_true (by first | (with_reducible assumption) | assumption)
              have q18 : x6_2 < (y0_.size : Int) := of_decide_eq_true (by first | (with_reducible assumption) | assumption)
              have hx18 := bt_at y0_ x6_2
              replace p18 := eq_true p18
              replace q18 := eq_true q18
              go_upto_region 14 with (first | ((with_reducible refine gate_callee (f := 28) rfl ?_); refine goesL_ (some 57) rfl rfl Tryd.func28 (by kernel_rfl) rfl #[.string (y0_.extract ((ji20) : Int).toNat y0_.size)] rfl (by (try simp only [List.map_toArray, List.map_cons, List.map_nil]); first | done | (simp only [hji20]; rfl) | rfl | (simp only [List.length_drop, List.length_take]; rfl)) ?_; (with_reducible refine (quote_unescape.calls (y0_.extract ((ji20) : Int).toNat y0_.size) t173 t174 _ A23.out).mono ?_); rintro e w' ⟨rfl, ⟨nd, rfl⟩⟩; refine ⟨_, rfl, ?_⟩))
              (try simp only [Act.put, List.setIfInBounds_toArray, List.set_cons_zero, List.set_cons_succ])
              generalize (y0_.extract ((ji20) : Int).toNat y0_.size) = y1_ at HC24 ⊢
              go_cut [71] (fun v71 wc => ∃ (kq : Nat) (x71_23 : Bool), v71 = .bool x71_23 ∧ Aside0 (quote_C.j2 kq x4_2 y0_ x6_2 y1_ t173 t174 x71_23 = some (r1, r2)) ∧ Aside0 (kq ≤ k2) ∧ Aside0 (Kd.R (Kd.int .u8) 5 wc w.heap.size (fun _ => True) u4 x4_2) ∧ Aside0 (Below w.heap.size w wc))
              case first =>
               have H := HC24.out
               clear HC24
               by_cases c25 : y1_.toList = ([] : List UInt8)
               ·rw [if_pos c25] at H
                have c25b0 : (y1_.toList == ([] : List UInt8)) = true := beq_iff_eq.mpr c25
                have c25b1 : (y1_.toList != ([] : List UInt8)) = false := bne_eq_false_iff_eq.mpr c25
                clear c25
                (first | rw [c25b0] | (simp only [i64_w, i32_w]; rw [c25b0]) | skip)
                have H' := Aside0.mk H
                clear H
                go_wp2
                go_meet
                case rel => exact ⟨_, (false), (by first | rfl | (simp; done) | (simp [*]; done)), H', ⟨by have := HJ1.out; have := HK2.out; first | omega | exact Nat.le_refl _⟩, ⟨by (with_reducible repeat (first | apply Kd.R_alloc | apply Kd.R_drewN | apply Kd.R_drew)); exact HO_4.out⟩, ⟨by repeat (first | (with_reducible first | exact HB.out | apply below_alloc | apply pw_below_drewN | apply below_drew1) | exact HB.out)⟩⟩
               ·rw [if_neg c25] at H
                have c25b0 : (y1_.toList == ([] : List UInt8)) = false := beq_eq_false_iff_ne.mpr c25
                have c25b1 : (y1_.toList != ([] : List UInt8)) = true := bne_iff_ne.mpr c25
                (first | rw [c25b0] | (simp only [i64_w, i32_w]; rw [c25b0]) | skip)
                by_cases c26 : 0 < (y1_.size : Int)
                ·rw [if_pos c26] at H
                 have c26b0 : decide (0 < (y1_.size : Int)) = true := decide_eq_true c26
                 have c26b1 : decide (0 < y1_.size) = true := decide_eq_true (by omega)
                 clear c26
                 by_cases c28 : (bt y1_ 0) = 34
                 ·rw [if_pos c28] at H
                  have c28b0 : ((bt y1_ 0) == 34) = true := beq_iff_eq.mpr c28
                  have c28b1 : ((bt y1_ 0) != 34) = false := bne_eq_false_iff_eq.mpr c28
                  clear c28
                  have H' := Aside0.mk H
                  clear H
                  have p27 : 0 ≤ (0 : Int) := (by omega)
                  have q27 : 0 < y1_.size := (by have : (0 : Int) < (y1_.size : Int) := of_decide_eq_true (by first | (with_reducible assumption) | assumption); omega)
                  have hx27 : ∀ h : 0 < y1_.size, ((y1_[0]'h).toNat : Int) = bt y1_ 0 := bt_at y1_ 0
                  clear p27
                  have qi27 : (0 < (y1_.size : Int)) = True := eq_true (of_decide_eq_true (by first | (with_reducible assumption) | assumption))
                  replace q27 := eq_true q27
                  go_wp2
                  go_meet
                  case rel => exact ⟨_, (true), (by first | rfl | (simp; done) | (simp [*]; done)), H', ⟨by have := HJ1.out; have := HK2.out; first | omega | exact Nat.le_refl _⟩, ⟨by (with_reducible repeat (first | apply Kd.R_alloc | apply Kd.R_drewN | apply Kd.R_drew)); exact HO_4.out⟩, ⟨by repeat (first | (with_reducible first | exact HB.out | apply below_alloc | apply pw_below_drewN | apply below_drew1) | exact HB.out)⟩⟩
                 ·rw [if_neg c28] at H
                  have c28b0 : ((bt y1_ 0) == 34) = false := beq_eq_false_iff_ne.mpr c28
                  have c28b1 : ((bt y1_ 0) != 34) = true := bne_iff_ne.mpr c28
                  have H' := Aside0.mk H
                  clear H
                  have p27 : 0 ≤ (0 : Int) := (by omega)
                  have q27 : 0 < y1_.size := (by have : (0 : Int) < (y1_.size : Int) := of_decide_eq_true (by first | (with_reducible assumption) | assumption); omega)
                  have hx27 : ∀ h : 0 < y1_.size, ((y1_[0]'h).toNat : Int) = bt y1_ 0 := bt_at y1_ 0
                  clear p27
                  have qi27 : (0 < (y1_.size : Int)) = True := eq_true (of_decide_eq_true (by first | (with_reducible assumption) | assumption))
                  replace q27 := eq_true q27
                  have p29 : 0 ≤ (0 : Int) := (by omega)
                  have q29 : 0 < y1_.size := (by have : (0 : Int) < (y1_.size : Int) := of_decide_eq_true (by first | (with_reducible assumption) | assumption); omega)
                  have hx29 : ∀ h : 0 < y1_.size, ((y1_[0]'h).toNat : Int) = bt y1_ 0 := bt_at y1_ 0
                  clear p29
                  have qi29 : (0 < (y1_.size : Int)) = True := eq_true (of_decide_eq_true (by first | (with_reducible assumption) | assumption))
                  replace q29 := eq_true q29
                  go_wp2
                  go_meet
                  case rel => exact ⟨_, (((bt y1_ 0) == 92)), (by first | rfl | (simp; done) | (simp only [← hji20] <;> (first | rfl | simp)) | (simp [*]; done)), H', ⟨by have := HJ1.out; have := HK2.out; first | omega | exact Nat.le_refl _⟩, ⟨by (with_reducible repeat (first | apply Kd.R_alloc | apply Kd.R_drewN | apply Kd.R_drew)); exact HO_4.out⟩, ⟨by repeat (first | (with_reducible first | exact HB.out | apply below_alloc | apply pw_below_drewN | apply below_drew1) | exact HB.out)⟩⟩
                ·rw [if_neg c26] at H
                 exact absurd H (by simp)
              case rest =>
               clear HC24
               (try clear c1); (try clear p1); (try clear q1); (try clear hx1); (try clear c2); (try clear p2); (try clear q2); (try clear hx2); (try clear qi2); (try clear c3); (try clear c3b0); (try clear c3b1); (try clear c4); (try clear c4b0); (try clear c4b1); (try clear p5); (try clear q5); (try clear hx5); (try clear qi5); (try clear c6); (try clear c6b0); (try clear c6b1); (try clear p6); (try clear c8); (try clear c8b0); (try clear c9); (try clear c9b0); (try clear p10); (try clear q10); (try clear hx10); (try clear c11); (try clear c12); (try clear c12b0); (try clear c12b1); (try clear c13); (try clear c13b0); (try clear c13b1); (try clear c14); (try clear c14b0); (try clear c15); (try clear c15b0); (try clear p16); (try clear q16); (try clear hx16); (try clear c17); (try clear c17b0); (try clear c17b1); (try clear p18); (try clear q18); (try clear hx18); (try clear c19); (try clear c19b0); (try clear c19b1); (try clear c21); (try clear c21b0); (try clear c21b1); (try clear c22); (try clear c22b0); (try clear c22b1); (try clear c25); (try clear c25b0); (try clear c25b1); (try clear c26); (try clear c26b0); (try clear c26b1); (try clear p27); (try clear q27); (try clear hx27); (try clear qi27); (try clear c28); (try clear c28b0); (try clear c28b1); (try clear p29); (try clear q29); (try clear hx29); (try clear qi29); (try clear p1); (try clear p10); (try clear p16); (try clear p18); (try clear p2); (try clear p27); (try clear p29); (try clear p5); (try clear p6); (try clear q1); (try clear q10); (try clear q16); (try clear q18); (try clear q27); (try clear q29); (try clear q5)
               obtain ⟨kq, x71_23, rfl, HA, HJ23, HO_4, HB⟩ := hcut
               cases kq with
               | zero => exact absurd HA.out (by simp [quote_C.j2])
               | succ kj23 =>
                have H := HA.out
                clear HA
                simp only [quote_C.j2] at H
                by_cases c30 : x71_23 = true
                ·subst c30
                 have H1 : (if 0 < (y1_.size : Int) then (if 1 = 0 then (some ((⟨#[]⟩ : ByteArray), false)) else (if x4_2.length < 140737488355328 then (quote_C.l0 kj23 (x4_2 ++ [bt y1_ 0]) y0_ (wrap64 (x6_2 + (1 + 1)))) else (none))) else (none)) = some (r1, r2) := by rw [if_pos rfl] at H; exact H
                 clear H
                 have H := H1
                 clear H1
                 by_cases c31 : 0 < (y1_.size : Int)
                 ·rw [if_pos c31] at H
                  have c31b0 : decide (0 < (y1_.size : Int)) = true := decide_eq_true c31
                  have c31b1 : decide (0 < y1_.size) = true := decide_eq_true (by omega)
                  clear c31
                  by_cases c33 : 1 = 0
                  ·exact absurd c33 (by decide)
                  ·rw [if_neg c33] at H
                   have c33b0 : (1 == 0) = false := beq_eq_false_iff_ne.mpr c33
                   have c33b1 : (1 != 0) = true := bne_iff_ne.mpr c33
                   by_cases c34 : x4_2.length < 140737488355328
                   ·rw [if_pos c34] at H
                    have LMc34 := Aside0.mk c34
                    clear c34
                    obtain ⟨y175, hy175⟩ : ∃ y_ : List Int, y_ = (x4_2 ++ [bt y1_ 0]) := ⟨_, rfl⟩
                    replace H : (quote_C.l0 kj23 y175 y0_ (wrap64 (x6_2 + (1 + 1)))) = some (r1, r2) := by first | (rw [hy175]; with_reducible exact H) | (have H2_ := (Option.bind_some _ _).symm.trans H; rw [hy175]; with_reducible exact H2_) | (have H2_ := (Option.bind_some _ _).symm.trans H; with_reducible exact H2_) | with_reducible exact H | (rw [hy175]; exact H) | exact H
                    have Ny175 := Aside0.mk hy175
                    clear hy175
                    have H' := Aside0.mk H
                    clear H
                    have p32 : 0 ≤ (0 : Int) := (by omega)
                    have q32 : 0 < y1_.size := (by have : (0 : Int) < (y1_.size : Int) := of_decide_eq_true (by first | (with_reducible assumption) | assumption); omega)
                    have hx32 : ∀ h : 0 < y1_.size, ((y1_[0]'h).toNat : Int) = bt y1_ 0 := bt_at y1_ 0
                    clear p32
                    have qi32 : (0 < (y1_.size : Int)) = True := eq_true (of_decide_eq_true (by first | (with_reducible assumption) | assumption))
                    replace q32 := eq_true q32
                    go_wp2_with (first | ((with_reducible refine gate_builtin (b := .append) (xs := #[.tmp 76, .tmp 78]) rfl ?_); (try (refine gate_guard (by rfl) ?_; dsimp only)); at_builtin; refine Kd.R_append (Kd.int .u8) (w0 := w) w.heap.size rfl (.tmp 76) (.tmp 78) 42 5 (.int .u8 0) 1 rfl Tryd.underlying42 info5 rfl (by decide) (by omega) u4 x4_2 (bt y1_ 0) [.int .u8 (bt y1_ 0)] (fun _ => True) (fun _ => False) rfl rfl ?aP (fun _ hk => hk.elim) ?aF ?aO ?aB ?aS ?aL ?_; (case aP => exact rfl); (case aB => exact (by repeat (first | (with_reducible first | exact HB.out | apply below_alloc | apply pw_below_drewN | apply below_drew1) | exact HB.out))); (case aF => exact (fun _ _ => trivial)); (case aO => exact (by (with_reducible repeat (first | apply Kd.R_alloc | apply Kd.R_drewN | apply Kd.R_drew)); exact HO_4.out)); (case aS => exact (below_size (by repeat (first | (with_reducible first | exact HB.out | apply below_alloc | apply pw_below_drewN | apply below_drew1) | exact HB.out)))); (case aL => have := LMc34.out; omega); intro v176 w35 ho hb hg hat; rw [← Ny175.out] at ho; have n0_ := Aside0.mk (hb); have n1_ := Aside0.mk (ho); clear HB; clear HO_4; have HB := n0_; have HO177 := n1_; clear n0_ n1_; clear ho hb hg hat))
                    go_roundg kj23
                    case measure => have := HJ1.out; have := HK2.out; have := HJ23.out; omega
                    case rel => exact ⟨(y175), (wrap64 (x6_2 + (1 + 1))), (by first | rfl | (simp; done) | (simp [*]; done)), H', ⟨by have := HJ1.out; have := HK2.out; have := HJ23.out; omega⟩, ⟨by (with_reducible repeat (first | apply Kd.R_alloc | apply Kd.R_drewN | apply Kd.R_drew)); exact HO177.out⟩, ⟨by repeat (first | (with_reducible first | exact HB.out | apply below_alloc | apply pw_below_drewN | apply below_drew1) | exact HB.out)⟩⟩
                   ·rw [if_neg c34] at H
                    exact absurd H (by simp)
                 ·rw [if_neg c31] at H
                  exact absurd H (by simp)
                ·replace c30 := Bool.eq_false_iff.mpr c30
                 subst c30
                 have H1 : (if t174 = 0 then (some ((⟨#[]⟩ : ByteArray), false)) else (if x4_2.length < 140737488355328 then (quote_C.l0 kj23 (x4_2 ++ [t173]) y0_ (wrap64 (x6_2 + (wrap64 (t174 + 1))))) else (none))) = some (r1, r2) := by rw [if_neg (show ¬ (false = true) by decide)] at H; exact H
                 clear H
                 have H := H1
                 clear H1
                 by_cases c36 : t174 = 0
                 ·rw [if_pos c36] at H
                  have c36b0 : (t174 == 0) = true := beq_iff_eq.mpr c36
                  have c36b1 : (t174 != 0) = false := bne_eq_false_iff_eq.mpr c36
                  clear c36
                  simp only [Option.some.injEq, Prod.mk.injEq] at H
                  obtain ⟨rfl, rfl⟩ := H
                  go_wp2
                  go_ret2
                  exact ⟨by first | rfl | (simp [errW_none, errW_some] <;> rfl) | (simp only [← hji20]; first | rfl | (simp [errW_none, errW_some] <;> rfl)) | (simp [*, errW_none, errW_some] <;> rfl), by repeat (first | (with_reducible first | exact HB.out | apply below_alloc | apply pw_below_drewN | apply below_drew1) | exact HB.out)⟩
                 ·rw [if_neg c36] at H
                  have c36b0 : (t174 == 0) = false := beq_eq_false_iff_ne.mpr c36
                  have c36b1 : (t174 != 0) = true := bne_iff_ne.mpr c36
                  by_cases c37 : x4_2.length < 140737488355328
                  ·rw [if_pos c37] at H
                   have LMc37 := Aside0.mk c37
                   clear c37
                   obtain ⟨y178, hy178⟩ : ∃ y_ : List Int, y_ = (x4_2 ++ [t173]) := ⟨_, rfl⟩
                   replace H : (quote_C.l0 kj23 y178 y0_ (wrap64 (x6_2 + (wrap64 (t174 + 1))))) = some (r1, r2) := by first | (rw [hy178]; with_reducible exact H) | (have H2_ := (Option.bind_some _ _).symm.trans H; rw [hy178]; with_reducible exact H2_) | (have H2_ := (Option.bind_some _ _).symm.trans H; with_reducible exact H2_) | with_reducible exact H | (rw [hy178]; exact H) | exact H
                   have Ny178 := Aside0.mk hy178
                   clear hy178
                   have H' := Aside0.mk H
                   clear H
                   go_wp2_with (first | ((with_reducible refine gate_builtin (b := .append) (xs := #[.tmp 76, .tmp 78]) rfl ?_); (try (refine gate_guard (by rfl) ?_; dsimp only)); at_builtin; refine Kd.R_append (Kd.int .u8) (w0 := w) w.heap.size rfl (.tmp 76) (.tmp 78) 42 5 (.int .u8 0) 1 rfl Tryd.underlying42 info5 rfl (by decide) (by omega) u4 x4_2 t173 [.int .u8 t173] (fun _ => True) (fun _ => False) rfl rfl ?aP (fun _ hk => hk.elim) ?aF ?aO ?aB ?aS ?aL ?_; (case aP => exact rfl); (case aB => exact (by repeat (first | (with_reducible first | exact HB.out | apply below_alloc | apply pw_below_drewN | apply below_drew1) | exact HB.out))); (case aF => exact (fun _ _ => trivial)); (case aO => exact (by (with_reducible repeat (first | apply Kd.R_alloc | apply Kd.R_drewN | apply Kd.R_drew)); exact HO_4.out)); (case aS => exact (below_size (by repeat (first | (with_reducible first | exact HB.out | apply below_alloc | apply pw_below_drewN | apply below_drew1) | exact HB.out)))); (case aL => have := LMc37.out; omega); intro v179 w38 ho hb hg hat; rw [← Ny178.out] at ho; have n0_ := Aside0.mk (hb); have n1_ := Aside0.mk (ho); clear HB; clear HO_4; have HB := n0_; have HO180 := n1_; clear n0_ n1_; clear ho hb hg hat))
                   go_roundg kj23
                   case measure => have := HJ1.out; have := HK2.out; have := HJ23.out; omega
                   case rel => exact ⟨(y178), (wrap64 (x6_2 + (wrap64 (t174 + 1)))), (by first | rfl | (simp; done) | (simp [*]; done)), H', ⟨by have := HJ1.out; have := HK2.out; have := HJ23.out; omega⟩, ⟨by (with_reducible repeat (first | apply Kd.R_alloc | apply Kd.R_drewN | apply Kd.R_drew)); exact HO180.out⟩, ⟨by repeat (first | (with_reducible first | exact HB.out | apply below_alloc | apply pw_below_drewN | apply below_drew1) | exact HB.out)⟩⟩
                  ·rw [if_neg c37] at H
                   exact absurd H (by simp)
             ·rw [if_neg c22] at H
              exact absurd H (by simp)
            ·rw [if_neg c21] at H
             exact absurd H (by simp)
           ·rw [if_neg c19] at H
            have c19b0 : ((bt y0_ x6_2) == 92) = false := beq_eq_false_iff_ne.mpr c19
            have c19b1 : ((bt y0_ x6_2) != 92) = true := bne_iff_ne.mpr c19
            by_cases c40 : x4_2.length < 140737488355328
            ·rw [if_pos c40] at H
             have LMc40 := Aside0.mk c40
             clear c40
             obtain ⟨y170, hy170⟩ : ∃ y_ : List Int, y_ = (x4_2 ++ [bt y0_ x6_2]) := ⟨_, rfl⟩
             replace H : (quote_C.l0 k2 y170 y0_ (wrap64 (x6_2 + 1))) = some (r1, r2) := by first | (rw [hy170]; with_reducible exact H) | (have H2_ := (Option.bind_some _ _).symm.trans H; rw [hy170]; with_reducible exact H2_) | (have H2_ := (Option.bind_some _ _).symm.trans H; with_reducible exact H2_) | with_reducible exact H | (rw [hy170]; exact H) | exact H
             have Ny170 := Aside0.mk hy170
             clear hy170
             have H' := Aside0.mk H
             clear H
             have p16 : 0 ≤ (x6_2 : Int) := of_decide_eq_true (by first | (with_reducible assumption) | assumption)
             have q16 : x6_2 < (y0_.size : Int) := of_decide_eq_true (by first | (with_reducible assumption) | assumption)
             have hx16 := bt_at y0_ x6_2
             replace p16 := eq_true p16
             replace q16 := eq_true q16
             have p18 : 0 ≤ (x6_2 : Int) := of_decide_eq_true (by first | (with_reducible assumption) | assumption)
             have q18 : x6_2 < (y0_.size : Int) := of_decide_eq_true (by first | (with_reducible assumption) | assumption)
             have hx18 := bt_at y0_ x6_2
             replace p18 := eq_true p18
             replace q18 := eq_true q18
             have p39 : 0 ≤ (x6_2 : Int) := of_decide_eq_true (by first | (with_reducible assumption) | assumption)
             have q39 : x6_2 < (y0_.size : Int) := of_decide_eq_true (by first | (with_reducible assumption) | assumption)
             have hx39 := bt_at y0_ x6_2
             replace p39 := eq_true p39
             replace q39 := eq_true q39
             go_wp2_with (first | ((with_reducible refine gate_builtin (b := .append) (xs := #[.tmp 43, .tmp 47]) rfl ?_); (try (refine gate_guard (by rfl) ?_; dsimp only)); at_builtin; refine Kd.R_append (Kd.int .u8) (w0 := w) w.heap.size rfl (.tmp 43) (.tmp 47) 42 5 (.int .u8 0) 1 rfl Tryd.underlying42 info5 rfl (by decide) (by omega) u4 x4_2 (bt y0_ x6_2) [.int .u8 (bt y0_ x6_2)] (fun _ => True) (fun _ => False) rfl rfl ?aP (fun _ hk => hk.elim) ?aF ?aO ?aB ?aS ?aL ?_; (case aP => exact rfl); (case aB => exact (by repeat (first | (with_reducible first | exact HB.out | apply below_alloc | apply pw_below_drewN | apply below_drew1) | exact HB.out))); (case aF => exact (fun _ _ => trivial)); (case aO => exact (by (with_reducible repeat (first | apply Kd.R_alloc | apply Kd.R_drewN | apply Kd.R_drew)); exact HO_4.out)); (case aS => exact (below_size (by repeat (first | (with_reducible first | exact HB.out | apply below_alloc | apply pw_below_drewN | apply below_drew1) | exact HB.out)))); (case aL => have := LMc40.out; omega); intro v171 w41 ho hb hg hat; rw [← Ny170.out] at ho; have n0_ := Aside0.mk (hb); have n1_ := Aside0.mk (ho); clear HB; clear HO_4; have HB := n0_; have HO172 := n1_; clear n0_ n1_; clear ho hb hg hat))
             go_roundg k2
             case measure => have := HJ1.out; have := HK2.out; omega
             case rel => exact ⟨(y170), (wrap64 (x6_2 + 1)), (by first | rfl | (simp; done) | (simp [*]; done)), H', ⟨by have := HJ1.out; have := HK2.out; omega⟩, ⟨by (with_reducible repeat (first | apply Kd.R_alloc | apply Kd.R_drewN | apply Kd.R_drew)); exact HO172.out⟩, ⟨by repeat (first | (with_reducible first | exact HB.out | apply below_alloc | apply pw_below_drewN | apply below_drew1) | exact HB.out)⟩⟩
            ·rw [if_neg c40] at H
             exact absurd H (by simp)
         ·rw [if_neg c15] at H
          exact absurd H (by simp)
        ·rw [if_neg c14] at H
         have c14b0 : decide (x6_2 < (y0_.size : Int)) = false := decide_eq_false c14
         clear c14
         simp only [Option.some.injEq, Prod.mk.injEq] at H
         obtain ⟨rfl, rfl⟩ := H
         have hcv42 := own_string (P := Tryd.prog) Tryd.underlying42 Tryd.underlying5 Tryd.underlying9 (Kd.own_of_R HO_4.out)
         go_wp2
         go_ret2
         exact ⟨by first | rfl | (simp [errW_none, errW_some] <;> rfl) | (simp [*, errW_none, errW_some] <;> rfl), by repeat (first | (with_reducible first | exact HB.out | apply below_alloc | apply pw_below_drewN | apply below_drew1) | exact HB.out)⟩
     ·rw [if_neg c13] at H
      exact absurd H (by simp)
    ·rw [if_neg c12] at H
     exact absurd H (by simp)
end Go.Proofs.YtkhbgfnbkdonlaaDoor.QQuo
