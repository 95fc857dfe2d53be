-- Made by a program of this session.
import Derived.Test.YtkhbgfnbkdonlaaDoorQQuoR1
namespace Go.Proofs.YtkhbgfnbkdonlaaDoor.QQuo
open Go.RowKit Go.Proofs.YtkhbgfnbkdonlaaDoorW.PrintWords Go.Proofs.YtkhbgfnbkdonlaaDoorW.PrintLast Go.Proofs.YtkhbgfnbkdonlaaDoorW.PrintMore
attribute [local go_sem] max2_int min2_int max_two min_two max_three min_three max_four min_four   -- for this text's walks alone
set_option linter.unusedVariables false
set_option linter.unusedSimpArgs false

-- proved elsewhere: function 30 (utf8_DecodeRuneInString)

-- proved elsewhere: function 27 (strings_IndexByte)

/-! ### domesdayref03_Shell: function 13 -/
mutual
def domesdayref03_Shell.l0 : Nat → ByteArray → List Int → List Int → Int → Int → Option (ByteArray × Bool)
 | 0, _, _, _, _, _ => none
 | k + 1, x0, x4, x5, x6, x7 => if x7 < (x0.size : Int) then (if 0 ≤ x7 then (if (wrap64 (x7 + 1)) < (x0.size : Int) then (if 0 ≤ (wrap64 (x7 + 1)) then (domesdayref03_Shell.j1 k x0 x4 x5 x6 x7 (bt x0 x7) (bt x0 (wrap64 (x7 + 1)))) else (none)) else (domesdayref03_Shell.j1 k x0 x4 x5 x6 x7 (bt x0 x7) 0)) else (none)) else (if x6 = 0 then (if x0.toList = ([] : List UInt8) then (some ((⟨#[]⟩ : ByteArray), false)) else (some (strOfNums x4, true))) else (some ((⟨#[]⟩ : ByteArray), false)))
def domesdayref03_Shell.j1 : Nat → ByteArray → List Int → List Int → Int → Int → Int → Int → Option (ByteArray × Bool)
 | 0, _, _, _, _, _, _, _ => none
 | k + 1, x0, x4, x5, x6, x7, x8, x9 => if x6 = 0 then (if x8 = 39 then (domesdayref03_Shell.l0 k x0 x4 x5 1 (wrap64 (x7 + 1))) else (if x8 = 36 then (domesdayref03_Shell.j2 k x0 x4 x5 x6 x7 x8 x9 (x9 == 39)) else (domesdayref03_Shell.j2 k x0 x4 x5 x6 x7 x8 x9 false))) else (if x6 = 1 then (if x8 = 39 then (domesdayref03_Shell.l0 k x0 x4 x5 0 (wrap64 (x7 + 1))) else (if x4.length < 140737488355328 then (domesdayref03_Shell.l0 k x0 (x4 ++ [x8]) x5 x6 (wrap64 (x7 + 1))) else (none))) else (if x6 = 2 then (if x8 = 39 then (domesdayref03_Shell.l0 k x0 x4 x5 0 (wrap64 (x7 + 1))) else ((domesdayref03_one.f k x0 (wrap64 (x7 + 1))).bind fun bt165 => (if x8 = 92 then (if bt165.2 = 0 then (some ((⟨#[]⟩ : ByteArray), false)) else (if x4.length < 140737488355328 then (domesdayref03_Shell.l0 k x0 (x4 ++ [bt165.1]) x5 x6 (wrap64 ((wrap64 (x7 + bt165.2)) + 1))) else (none))) else (some ((⟨#[]⟩ : ByteArray), false))))) else (domesdayref03_Shell.l0 k x0 x4 x5 x6 (wrap64 (x7 + 1)))))
def domesdayref03_Shell.j2 : Nat → ByteArray → List Int → List Int → Int → Int → Int → Int → Bool → Option (ByteArray × Bool)
 | 0, _, _, _, _, _, _, _, _ => none
 | k + 1, x0, x4, x5, x6, x7, x8, x9, x42 => if x42 = true then (domesdayref03_Shell.l0 k x0 x4 x5 2 (wrap64 ((wrap64 (x7 + 1)) + 1))) else (if x8 = 92 then (domesdayref03_Shell.j3 k x0 x4 x5 x6 x7 x8 (x9 == 39)) else (domesdayref03_Shell.j3 k x0 x4 x5 x6 x7 x8 false))
def domesdayref03_Shell.j3 : Nat → ByteArray → List Int → List Int → Int → Int → Int → Bool → Option (ByteArray × Bool)
 | 0, _, _, _, _, _, _, _ => none
 | k + 1, x0, x4, x5, x6, x7, x8, x50 => if x50 = true then (if x4.length < 140737488355328 then (domesdayref03_Shell.l0 k x0 (x4 ++ [39]) x5 x6 (wrap64 ((wrap64 (x7 + 1)) + 1))) else (none)) else (if 0 ≤ x7 then (if x7 < (x5.length : Int) then (if (rd x5 x7) = 1 then (if x4.length < 140737488355328 then (domesdayref03_Shell.l0 k x0 (x4 ++ [x8]) x5 x6 (wrap64 (x7 + 1))) else (none)) else (some ((⟨#[]⟩ : ByteArray), false))) else (none)) else (none))
end
def domesdayref03_Shell.f (k : Nat) (a0 : ByteArray) : Option (ByteArray × Bool) := (domesdayref03_Kinds.f k a0).bind fun t152 => (domesdayref03_Shell.l0 k a0 ([] : List Int) t152 0 0)
theorem domesdayref03_Shell.mono_l : ∀ k, (∀ y0 y1 y2 y3 y4, LeO (domesdayref03_Shell.l0 k y0 y1 y2 y3 y4) (domesdayref03_Shell.l0 (k + 1) y0 y1 y2 y3 y4)) ∧ (∀ y0 y1 y2 y3 y4 y5 y6, LeO (domesdayref03_Shell.j1 k y0 y1 y2 y3 y4 y5 y6) (domesdayref03_Shell.j1 (k + 1) y0 y1 y2 y3 y4 y5 y6)) ∧ (∀ y0 y1 y2 y3 y4 y5 y6 y7, LeO (domesdayref03_Shell.j2 k y0 y1 y2 y3 y4 y5 y6 y7) (domesdayref03_Shell.j2 (k + 1) y0 y1 y2 y3 y4 y5 y6 y7)) ∧ (∀ y0 y1 y2 y3 y4 y5 y6, LeO (domesdayref03_Shell.j3 k y0 y1 y2 y3 y4 y5 y6) (domesdayref03_Shell.j3 (k + 1) y0 y1 y2 y3 y4 y5 y6))
 | 0 => ⟨fun _ _ _ _ _ r h => by simp [domesdayref03_Shell.l0] at h, fun _ _ _ _ _ _ _ r h => by simp [domesdayref03_Shell.j1] at h, fun _ _ _ _ _ _ _ _ r h => by simp [domesdayref03_Shell.j2] at h, fun _ _ _ _ _ _ _ r h => by simp [domesdayref03_Shell.j3] at h⟩
 | k + 1 => by
  obtain ⟨ih0, ih1, ih2, ih3⟩ := domesdayref03_Shell.mono_l k
  refine ⟨?_, ?_, ?_, ?_⟩
  ·intro y0 y1 y2 y3 y4
   unfold domesdayref03_Shell.l0
   repeat' first
   | (with_reducible exact ih0 _ _ _ _ _)
   | (with_reducible exact ih1 _ _ _ _ _ _ _)
   | (with_reducible exact ih2 _ _ _ _ _ _ _ _)
   | (with_reducible exact ih3 _ _ _ _ _ _ _)
   | (with_reducible exact domesdayref03_Kinds.mono _ _)
   | (with_reducible exact domesdayref03_one.mono _ _ _)
   | (with_reducible exact LeO.refl _)
   | (with_reducible exact LeO.none _)
   | (with_reducible refine LeO.ite ?_ ?_)
   | (with_reducible refine LeO.bind ?_ (fun _ => ?_))
   | exact ih0 _ _ _ _ _
   | exact ih1 _ _ _ _ _ _ _
   | exact ih2 _ _ _ _ _ _ _ _
   | exact ih3 _ _ _ _ _ _ _
   | exact domesdayref03_Kinds.mono _ _
   | exact domesdayref03_one.mono _ _ _
   | exact LeO.none _
   | refine LeO.ite ?_ ?_
   | refine LeO.bind ?_ (fun _ => ?_)
  ·intro y0 y1 y2 y3 y4 y5 y6
   unfold domesdayref03_Shell.j1
   repeat' first
   | (with_reducible exact ih0 _ _ _ _ _)
   | (with_reducible exact ih1 _ _ _ _ _ _ _)
   | (with_reducible exact ih2 _ _ _ _ _ _ _ _)
   | (with_reducible exact ih3 _ _ _ _ _ _ _)
   | (with_reducible exact domesdayref03_Kinds.mono _ _)
   | (with_reducible exact domesdayref03_one.mono _ _ _)
   | (with_reducible exact LeO.refl _)
   | (with_reducible exact LeO.none _)
   | (with_reducible refine LeO.ite ?_ ?_)
   | (with_reducible refine LeO.bind ?_ (fun _ => ?_))
   | exact ih0 _ _ _ _ _
   | exact ih1 _ _ _ _ _ _ _
   | exact ih2 _ _ _ _ _ _ _ _
   | exact ih3 _ _ _ _ _ _ _
   | exact domesdayref03_Kinds.mono _ _
   | exact domesdayref03_one.mono _ _ _
   | exact LeO.none _
   | refine LeO.ite ?_ ?_
   | refine LeO.bind ?_ (fun _ => ?_)
  ·intro y0 y1 y2 y3 y4 y5 y6 y7
   unfold domesdayref03_Shell.j2
   repeat' first
   | (with_reducible exact ih0 _ _ _ _ _)
   | (with_reducible exact ih1 _ _ _ _ _ _ _)
   | (with_reducible exact ih2 _ _ _ _ _ _ _ _)
   | (with_reducible exact ih3 _ _ _ _ _ _ _)
   | (with_reducible exact domesdayref03_Kinds.mono _ _)
   | (with_reducible exact domesdayref03_one.mono _ _ _)
   | (with_reducible exact LeO.refl _)
   | (with_reducible exact LeO.none _)
   | (with_reducible refine LeO.ite ?_ ?_)
   | (with_reducible refine LeO.bind ?_ (fun _ => ?_))
   | exact ih0 _ _ _ _ _
   | exact ih1 _ _ _ _ _ _ _
   | exact ih2 _ _ _ _ _ _ _ _
   | exact ih3 _ _ _ _ _ _ _
   | exact domesdayref03_Kinds.mono _ _
   | exact domesdayref03_one.mono _ _ _
   | exact LeO.none _
   | refine LeO.ite ?_ ?_
   | refine LeO.bind ?_ (fun _ => ?_)
  ·intro y0 y1 y2 y3 y4 y5 y6
   unfold domesdayref03_Shell.j3
   repeat' first
   | (with_reducible exact ih0 _ _ _ _ _)
   | (with_reducible exact ih1 _ _ _ _ _ _ _)
   | (with_reducible exact ih2 _ _ _ _ _ _ _ _)
   | (with_reducible exact ih3 _ _ _ _ _ _ _)
   | (with_reducible exact domesdayref03_Kinds.mono _ _)
   | (with_reducible exact domesdayref03_one.mono _ _ _)
   | (with_reducible exact LeO.refl _)
   | (with_reducible exact LeO.none _)
   | (with_reducible refine LeO.ite ?_ ?_)
   | (with_reducible refine LeO.bind ?_ (fun _ => ?_))
   | exact ih0 _ _ _ _ _
   | exact ih1 _ _ _ _ _ _ _
   | exact ih2 _ _ _ _ _ _ _ _
   | exact ih3 _ _ _ _ _ _ _
   | exact domesdayref03_Kinds.mono _ _
   | exact domesdayref03_one.mono _ _ _
   | exact LeO.none _
   | refine LeO.ite ?_ ?_
   | refine LeO.bind ?_ (fun _ => ?_)
theorem domesdayref03_Shell.mono : ∀ a0 k, LeO (domesdayref03_Shell.f k a0) (domesdayref03_Shell.f (k + 1) a0) := by
 intro a0 k
 obtain ⟨ih0, ih1, ih2, ih3⟩ := domesdayref03_Shell.mono_l k
 unfold domesdayref03_Shell.f
 repeat' first
   | (with_reducible exact ih0 _ _ _ _ _)
   | (with_reducible exact ih1 _ _ _ _ _ _ _)
   | (with_reducible exact ih2 _ _ _ _ _ _ _ _)
   | (with_reducible exact ih3 _ _ _ _ _ _ _)
   | (with_reducible exact domesdayref03_Kinds.mono _ _)
   | (with_reducible exact domesdayref03_one.mono _ _ _)
   | (with_reducible exact LeO.refl _)
   | (with_reducible exact LeO.none _)
   | (with_reducible refine LeO.ite ?_ ?_)
   | (with_reducible refine LeO.bind ?_ (fun _ => ?_))
   | exact ih0 _ _ _ _ _
   | exact ih1 _ _ _ _ _ _ _
   | exact ih2 _ _ _ _ _ _ _ _
   | exact ih3 _ _ _ _ _ _ _
   | exact domesdayref03_Kinds.mono _ _
   | exact domesdayref03_one.mono _ _ _
   | exact LeO.none _
   | refine LeO.ite ?_ ?_
   | refine LeO.bind ?_ (fun _ => ?_)
set_option maxHeartbeats 8000000 in
set_option maxRecDepth 100000 in
theorem domesdayref03_Shell.calls (k : Nat) (a0 : ByteArray) (r1 : ByteArray) (r2 : Bool) (w : World) (h : domesdayref03_Shell.f k a0 = some (r1, r2)) :
  Calls Tryd.prog 13 #[.string a0] w fun e w' => e = .returned (.tuple #[.string r1, .bool r2]) ∧ Below w.heap.size w w' := by
 have HB := Aside0.mk (Below.refl w.heap.size w)
 have H : ((domesdayref03_Kinds.f k a0).bind fun t152 => (domesdayref03_Shell.l0 k a0 ([] : List Int) t152 0 0)) = some (r1, r2) := h
 clear h
 replace H := Option.bind_eq_some_iff.mp H
 obtain ⟨t152, A20, H⟩ := H
 replace H : (domesdayref03_Shell.l0 k a0 ([] : List Int) t152 0 0) = some (r1, r2) := H
 have A2 := Aside0.mk A20
 clear A20
 have H' := Aside0.mk H
 clear H
 go_enter Tryd.func13, Tryd.ntmps13
 go_wp2_with (first | ((with_reducible refine gate_callee (f := 11) rfl ?_); refine goesL_ (some 13) rfl rfl Tryd.func11 (by kernel_rfl) rfl #[.string a0] rfl (by (try simp only [List.map_toArray, List.map_cons, List.map_nil]); first | done | rfl | (simp only [List.length_drop, List.length_take]; rfl)) ?_; (with_reducible refine (domesdayref03_Kinds.calls k a0 t152 _ A2.out).mono ?_); rintro e w3 ⟨v153, rfl, ho0, hb⟩; refine ⟨_, rfl, ?_⟩; have n0_ := Aside0.mk (Kd.R_lower ho0 (below_size (by repeat (first | (with_reducible first | exact HB.out | apply below_alloc | apply pw_below_drewN | apply below_drew1) | exact HB.out)))); have n1_ := Aside0.mk (below_step (by repeat (first | (with_reducible first | exact HB.out | apply below_alloc | apply pw_below_drewN | apply below_drew1) | exact HB.out)) hb); clear HB; have HO154 := n0_; have HB := n1_; clear n0_ n1_; (try clear hb); (try clear hb2); (try clear hk); (try clear hi); (try clear ho0)))
 go_loopg [4, 6, 7] k (fun kq v4 v6 v7 w' => ∃ (x4_1 : List Int) (x6_1 : Int) (x7_1 : Int), v6 = .int .i64 x6_1 ∧ v7 = .int .i64 x7_1 ∧ Aside0 (domesdayref03_Shell.l0 kq a0 x4_1 t152 x6_1 x7_1 = some (r1, r2)) ∧ Aside0 (kq ≤ k) ∧ Aside0 (Kd.R (Kd.int .u8) 5 w' w.heap.size (fun _ => True) v4 x4_1) ∧ Aside0 (Kd.R (Kd.int .i64) 3 w' w.heap.size (fun _ => True) v153 t152) ∧ Aside0 (Below w.heap.size w w'))
 case atStart => exact ⟨(([] : List Int)), (0), (0), (by first | rfl | (simp; done) | (simp [*]; done)), (by first | rfl | (simp; done) | (simp [*]; done)), H', ⟨Nat.le_refl _⟩, ⟨by first | exact Kd.R_nil _ _ _ _ _ | exact Kd.N_nil _ _ _ _ _ | exact Kd.V_nil _ _ _ _ _ | exact Kd.Q_nil _ _ _ _ _ | exact Kd.S_nil _ _ _ _ _⟩, ⟨by (with_reducible repeat (first | apply Kd.R_alloc | apply Kd.R_drewN | apply Kd.R_drew)); exact HO154.out⟩, ⟨by repeat (first | (with_reducible first | exact HB.out | apply below_alloc | apply pw_below_drewN | apply below_drew1) | exact HB.out)⟩⟩
 case round =>
  clear H'
  (try clear c1); (try clear p2)
  obtain ⟨x4_1, x6_1, x7_1, rfl, rfl, HA, HK1, HO_4, HO_5, HB⟩ := hrel
  cases gk with
  | zero => exact absurd HA.out (by simp [domesdayref03_Shell.l0])
  | succ k1 =>
   have H := HA.out
   clear HA
   simp only [domesdayref03_Shell.l0] at H
   by_cases c4 : x7_1 < (a0.size : Int)
   ·rw [if_pos c4] at H
    have c4b0 : decide (x7_1 < (a0.size : Int)) = true := decide_eq_true c4
    clear c4
    by_cases c5 : 0 ≤ x7_1
    ·rw [if_pos c5] at H
     have c5b0 : decide (0 ≤ x7_1) = true := decide_eq_true c5
     clear c5
     have HC7 := Aside0.mk H
     clear H
     have p6 : 0 ≤ (x7_1 : Int) := of_decide_eq_true (by first | (with_reducible assumption) | assumption)
     have q6 : x7_1 < (a0.size : Int) := of_decide_eq_true (by first | (with_reducible assumption) | assumption)
     have hx6 := bt_at a0 x7_1
     replace p6 := eq_true p6
     replace q6 := eq_true q6
     go_upto_if 27 with (fail)
     go_cut [9] (fun v9 wc => ∃ (kq : Nat) (x9_6 : Int), v9 = .int .u8 x9_6 ∧ Aside0 (domesdayref03_Shell.j1 kq a0 x4_1 t152 x6_1 x7_1 (bt a0 x7_1) x9_6 = some (r1, r2)) ∧ Aside0 (kq ≤ k1) ∧ Aside0 (Kd.R (Kd.int .u8) 5 wc w.heap.size (fun _ => True) u4 x4_1) ∧ Aside0 (Kd.R (Kd.int .i64) 3 wc w.heap.size (fun _ => True) v153 t152) ∧ Aside0 (Below w.heap.size w wc))
     case first =>
      have H := HC7.out
      clear HC7
      by_cases c8 : (wrap64 (x7_1 + 1)) < (a0.size : Int)
      ·rw [if_pos c8] at H
       have c8b0 : decide ((wrap64 (x7_1 + 1)) < (a0.size : Int)) = true := decide_eq_true c8
       clear c8
       (first | rw [c8b0] | (simp only [i64_w, i32_w]; rw [c8b0]) | skip)
       obtain ⟨ji9, hji9⟩ : ∃ j_ : Int, (wrap64 (x7_1 + 1)) = j_ := ⟨_, rfl⟩
       replace H : (if 0 ≤ (ji9) then (domesdayref03_Shell.j1 k1 a0 x4_1 t152 x6_1 x7_1 (bt a0 x7_1) (bt a0 (ji9))) else (none)) = some (r1, r2) := by first | (rw [hji9] at H; exact H) | (simp only [hji9] at H ⊢; exact H)
       (try rw [hji9] at c8b0)
       have hji9w : (IntKind.i64.wrap (x7_1 + 1)) = ji9 := (i64_w _).trans hji9
       by_cases c10 : 0 ≤ (ji9)
       ·rw [if_pos c10] at H
        have c10b0 : decide (0 ≤ (ji9)) = true := decide_eq_true c10
        clear c10
        have H' := Aside0.mk H
        clear H
        have p11 : 0 ≤ ((ji9) : Int) := of_decide_eq_true (by first | (with_reducible assumption) | assumption)
        have q11 : (ji9) < (a0.size : Int) := of_decide_eq_true (by first | (with_reducible assumption) | assumption)
        have hx11 := bt_at a0 (ji9)
        replace p11 := eq_true p11
        replace q11 := eq_true q11
        go_wp2
        go_meet
        case rel => exact ⟨_, (bt a0 (ji9)), (by first | rfl | (simp; done) | (simp only [← hji9] <;> (first | rfl | simp)) | (simp [*]; done)), H', ⟨by have := HK1.out; first | omega | exact Nat.le_refl _⟩, ⟨by (with_reducible repeat (first | apply Kd.R_alloc | apply Kd.R_drewN | apply Kd.R_drew)); exact HO_4.out⟩, ⟨by (with_reducible repeat (first | apply Kd.R_alloc | apply Kd.R_drewN | apply Kd.R_drew)); exact HO_5.out⟩, ⟨by repeat (first | (with_reducible first | exact HB.out | apply below_alloc | apply pw_below_drewN | apply below_drew1) | exact HB.out)⟩⟩
       ·rw [if_neg c10] at H
        exact absurd H (by simp)
      ·rw [if_neg c8] at H
       have c8b0 : decide ((wrap64 (x7_1 + 1)) < (a0.size : Int)) = false := decide_eq_false c8
       clear c8
       (first | rw [c8b0] | (simp only [i64_w, i32_w]; rw [c8b0]) | skip)
       have H' := Aside0.mk H
       clear H
       go_wp2
       go_meet
       case rel => exact ⟨_, (0), (by first | rfl | (simp; done) | (simp [*]; done)), H', ⟨by have := HK1.out; first | omega | exact Nat.le_refl _⟩, ⟨by (with_reducible repeat (first | apply Kd.R_alloc | apply Kd.R_drewN | apply Kd.R_drew)); exact HO_4.out⟩, ⟨by (with_reducible repeat (first | apply Kd.R_alloc | apply Kd.R_drewN | apply Kd.R_drew)); exact HO_5.out⟩, ⟨by repeat (first | (with_reducible first | exact HB.out | apply below_alloc | apply pw_below_drewN | apply below_drew1) | exact HB.out)⟩⟩
     case rest =>
      clear HC7
      (try clear c1); (try clear p1); (try clear q1); (try clear hx1); (try clear p2); (try clear c4); (try clear c4b0); (try clear c5); (try clear c5b0); (try clear p6); (try clear q6); (try clear hx6); (try clear c8); (try clear c8b0); (try clear c10); (try clear c10b0); (try clear c11); (try clear p11); (try clear q11); (try clear hx11); (try clear p11); (try clear p2); (try clear p6); (try clear q11); (try clear q6)
      obtain ⟨kq, x9_6, rfl, HA, HJ6, HO_4, HO_5, HB⟩ := hcut
      cases kq with
      | zero => exact absurd HA.out (by simp [domesdayref03_Shell.j1])
      | succ kj6 =>
       have H := HA.out
       clear HA
       simp only [domesdayref03_Shell.j1] at H
       by_cases c12 : x6_1 = 0
       ·rw [if_pos c12] at H
        have c12b0 : (x6_1 == 0) = true := beq_iff_eq.mpr c12
        have c12b1 : (x6_1 != 0) = false := bne_eq_false_iff_eq.mpr c12
        clear c12
        by_cases c13 : (bt a0 x7_1) = 39
        ·rw [if_pos c13] at H
         have c13b0 : ((bt a0 x7_1) == 39) = true := beq_iff_eq.mpr c13
         have c13b1 : ((bt a0 x7_1) != 39) = false := bne_eq_false_iff_eq.mpr c13
         clear c13
         have H' := Aside0.mk H
         clear H
         go_wp2
         go_roundg kj6
         case measure => have := HK1.out; have := HJ6.out; omega
         case rel => exact ⟨(x4_1), (1), (wrap64 (x7_1 + 1)), (by first | rfl | (simp; done) | (simp [*]; done)), (by first | rfl | (simp; done) | (simp [*]; done)), H', ⟨by have := HK1.out; have := HJ6.out; omega⟩, ⟨by (with_reducible repeat (first | apply Kd.R_alloc | apply Kd.R_drewN | apply Kd.R_drew)); exact HO_4.out⟩, ⟨by (with_reducible repeat (first | apply Kd.R_alloc | apply Kd.R_drewN | apply Kd.R_drew)); exact HO_5.out⟩, ⟨by repeat (first | (with_reducible first | exact HB.out | apply below_alloc | apply pw_below_drewN | apply below_drew1) | exact HB.out)⟩⟩
        ·rw [if_neg c13] at H
         have c13b0 : ((bt a0 x7_1) == 39) = false := beq_eq_false_iff_ne.mpr c13
         have c13b1 : ((bt a0 x7_1) != 39) = true := bne_iff_ne.mpr c13
         have HC14 := Aside0.mk H
         clear H
         go_upto_region 15 with (fail)
         go_cut [42] (fun v42 wc => ∃ (kq : Nat) (x42_13 : Bool), v42 = .bool x42_13 ∧ Aside0 (domesdayref03_Shell.j2 kq a0 x4_1 t152 x6_1 x7_1 (bt a0 x7_1) x9_6 x42_13 = some (r1, r2)) ∧ Aside0 (kq ≤ kj6) ∧ Aside0 (Kd.R (Kd.int .u8) 5 wc w.heap.size (fun _ => True) u4 x4_1) ∧ Aside0 (Kd.R (Kd.int .i64) 3 wc w.heap.size (fun _ => True) v153 t152) ∧ Aside0 (Below w.heap.size w wc))
         case first =>
          have H := HC14.out
          clear HC14
          by_cases c15 : (bt a0 x7_1) = 36
          ·rw [if_pos c15] at H
           have c15b0 : ((bt a0 x7_1) == 36) = true := beq_iff_eq.mpr c15
           have c15b1 : ((bt a0 x7_1) != 36) = false := bne_eq_false_iff_eq.mpr c15
           clear c15
           (first | rw [c15b0] | (simp only [i64_w, i32_w]; rw [c15b0]) | skip)
           have H' := Aside0.mk H
           clear H
           go_wp2
           go_meet
           case rel => exact ⟨_, ((x9_6 == 39)), (by first | rfl | (simp; done) | (simp [*]; done)), H', ⟨by have := HK1.out; have := HJ6.out; first | omega | exact Nat.le_refl _⟩, ⟨by (with_reducible repeat (first | apply Kd.R_alloc | apply Kd.R_drewN | apply Kd.R_drew)); exact HO_4.out⟩, ⟨by (with_reducible repeat (first | apply Kd.R_alloc | apply Kd.R_drewN | apply Kd.R_drew)); exact HO_5.out⟩, ⟨by repeat (first | (with_reducible first | exact HB.out | apply below_alloc | apply pw_below_drewN | apply below_drew1) | exact HB.out)⟩⟩
          ·rw [if_neg c15] at H
           have c15b0 : ((bt a0 x7_1) == 36) = false := beq_eq_false_iff_ne.mpr c15
           have c15b1 : ((bt a0 x7_1) != 36) = true := bne_iff_ne.mpr c15
           (first | rw [c15b0] | (simp only [i64_w, i32_w]; rw [c15b0]) | skip)
           have H' := Aside0.mk H
           clear H
           go_wp2
           go_meet
           case rel => exact ⟨_, (false), (by first | rfl | (simp; done) | (simp [*]; done)), H', ⟨by have := HK1.out; have := HJ6.out; first | omega | exact Nat.le_refl _⟩, ⟨by (with_reducible repeat (first | apply Kd.R_alloc | apply Kd.R_drewN | apply Kd.R_drew)); exact HO_4.out⟩, ⟨by (with_reducible repeat (first | apply Kd.R_alloc | apply Kd.R_drewN | apply Kd.R_drew)); exact HO_5.out⟩, ⟨by repeat (first | (with_reducible first | exact HB.out | apply below_alloc | apply pw_below_drewN | apply below_drew1) | exact HB.out)⟩⟩
         case rest =>
          clear HC14
          (try clear c1); (try clear p1); (try clear q1); (try clear hx1); (try clear p2); (try clear c4); (try clear c4b0); (try clear c5); (try clear c5b0); (try clear p6); (try clear q6); (try clear hx6); (try clear c8); (try clear c8b0); (try clear c10); (try clear c10b0); (try clear c11); (try clear p11); (try clear q11); (try clear hx11); (try clear c12); (try clear c12b0); (try clear c12b1); (try clear c13); (try clear c13b0); (try clear c13b1); (try clear c15); (try clear c15b0); (try clear c15b1); (try clear p1); (try clear p11); (try clear p2); (try clear p6); (try clear q1); (try clear q11); (try clear q6)
          obtain ⟨kq, x42_13, rfl, HA, HJ13, HO_4, HO_5, HB⟩ := hcut
          cases kq with
          | zero => exact absurd HA.out (by simp [domesdayref03_Shell.j2])
          | succ kj13 =>
           have H := HA.out
           clear HA
           simp only [domesdayref03_Shell.j2] at H
           by_cases c16 : x42_13 = true
           ·subst c16
            have H1 : (domesdayref03_Shell.l0 kj13 a0 x4_1 t152 2 (wrap64 ((wrap64 (x7_1 + 1)) + 1))) = some (r1, r2) := by rw [if_pos rfl] at H; exact H
            clear H
            have H := H1
            clear H1
            have H' := Aside0.mk H
            clear H
            go_wp2
            go_roundg kj13
            case measure => have := HK1.out; have := HJ6.out; have := HJ13.out; omega
            case rel => exact ⟨(x4_1), (2), (wrap64 ((wrap64 (x7_1 + 1)) + 1)), (by first | rfl | (simp; done) | (simp [*]; done)), (by first | rfl | (simp; done) | (simp [*]; done)), H', ⟨by have := HK1.out; have := HJ6.out; have := HJ13.out; omega⟩, ⟨by (with_reducible repeat (first | apply Kd.R_alloc | apply Kd.R_drewN | apply Kd.R_drew)); exact HO_4.out⟩, ⟨by (with_reducible repeat (first | apply Kd.R_alloc | apply Kd.R_drewN | apply Kd.R_drew)); exact HO_5.out⟩, ⟨by repeat (first | (with_reducible first | exact HB.out | apply below_alloc | apply pw_below_drewN | apply below_drew1) | exact HB.out)⟩⟩
           ·replace c16 := Bool.eq_false_iff.mpr c16
            subst c16
            have H1 : (if (bt a0 x7_1) = 92 then (domesdayref03_Shell.j3 kj13 a0 x4_1 t152 x6_1 x7_1 (bt a0 x7_1) (x9_6 == 39)) else (domesdayref03_Shell.j3 kj13 a0 x4_1 t152 x6_1 x7_1 (bt a0 x7_1) false)) = some (r1, r2) := by rw [if_neg (show ¬ (false = true) by decide)] at H; exact H
            clear H
            have H := H1
            clear H1
            have HC17 := Aside0.mk H
            clear H
            go_upto_region 18 with (fail)
            go_cut [50] (fun v50 wc => ∃ (kq : Nat) (x50_16 : Bool), v50 = .bool x50_16 ∧ Aside0 (domesdayref03_Shell.j3 kq a0 x4_1 t152 x6_1 x7_1 (bt a0 x7_1) x50_16 = some (r1, r2)) ∧ Aside0 (kq ≤ kj13) ∧ Aside0 (Kd.R (Kd.int .u8) 5 wc w.heap.size (fun _ => True) u4 x4_1) ∧ Aside0 (Kd.R (Kd.int .i64) 3 wc w.heap.size (fun _ => True) v153 t152) ∧ Aside0 (Below w.heap.size w wc))
            case first =>
             have H := HC17.out
             clear HC17
             by_cases c18 : (bt a0 x7_1) = 92
             ·rw [if_pos c18] at H
              have c18b0 : ((bt a0 x7_1) == 92) = true := beq_iff_eq.mpr c18
              have c18b1 : ((bt a0 x7_1) != 92) = false := bne_eq_false_iff_eq.mpr c18
              clear c18
              (first | rw [c18b0] | (simp only [i64_w, i32_w]; rw [c18b0]) | skip)
              have H' := Aside0.mk H
              clear H
              go_wp2
              go_meet
              case rel => exact ⟨_, ((x9_6 == 39)), (by first | rfl | (simp; done) | (simp [*]; done)), H', ⟨by have := HK1.out; have := HJ6.out; have := HJ13.out; first | omega | exact Nat.le_refl _⟩, ⟨by (with_reducible repeat (first | apply Kd.R_alloc | apply Kd.R_drewN | apply Kd.R_drew)); exact HO_4.out⟩, ⟨by (with_reducible repeat (first | apply Kd.R_alloc | apply Kd.R_drewN | apply Kd.R_drew)); exact HO_5.out⟩, ⟨by repeat (first | (with_reducible first | exact HB.out | apply below_alloc | apply pw_below_drewN | apply below_drew1) | exact HB.out)⟩⟩
             ·rw [if_neg c18] at H
              have c18b0 : ((bt a0 x7_1) == 92) = false := beq_eq_false_iff_ne.mpr c18
              have c18b1 : ((bt a0 x7_1) != 92) = true := bne_iff_ne.mpr c18
              (first | rw [c18b0] | (simp only [i64_w, i32_w]; rw [c18b0]) | skip)
              have H' := Aside0.mk H
              clear H
              go_wp2
              go_meet
              case rel => exact ⟨_, (false), (by first | rfl | (simp; done) | (simp [*]; done)), H', ⟨by have := HK1.out; have := HJ6.out; have := HJ13.out; first | omega | exact Nat.le_refl _⟩, ⟨by (with_reducible repeat (first | apply Kd.R_alloc | apply Kd.R_drewN | apply Kd.R_drew)); exact HO_4.out⟩, ⟨by (with_reducible repeat (first | apply Kd.R_alloc | apply Kd.R_drewN | apply Kd.R_drew)); exact HO_5.out⟩, ⟨by repeat (first | (with_reducible first | exact HB.out | apply below_alloc | apply pw_below_drewN | apply below_drew1) | exact HB.out)⟩⟩
            case rest =>
             clear HC17
             (try clear c1); (try clear p1); (try clear q1); (try clear hx1); (try clear p2); (try clear c4); (try clear c4b0); (try clear c5); (try clear c5b0); (try clear p6); (try clear q6); (try clear hx6); (try clear c8); (try clear c8b0); (try clear c10); (try clear c10b0); (try clear c11); (try clear p11); (try clear q11); (try clear hx11); (try clear c12); (try clear c12b0); (try clear c12b1); (try clear c13); (try clear c13b0); (try clear c13b1); (try clear c15); (try clear c15b0); (try clear c15b1); (try clear c16); (try clear c18); (try clear c18b0); (try clear c18b1); (try clear p1); (try clear p11); (try clear p2); (try clear p6); (try clear q1); (try clear q11); (try clear q6)
             obtain ⟨kq, x50_16, rfl, HA, HJ16, HO_4, HO_5, HB⟩ := hcut
             cases kq with
             | zero => exact absurd HA.out (by simp [domesdayref03_Shell.j3])
             | succ kj16 =>
              have H := HA.out
              clear HA
              simp only [domesdayref03_Shell.j3] at H
              by_cases c19 : x50_16 = true
              ·subst c19
               have H1 : (if x4_1.length < 140737488355328 then (domesdayref03_Shell.l0 kj16 a0 (x4_1 ++ [39]) t152 x6_1 (wrap64 ((wrap64 (x7_1 + 1)) + 1))) else (none)) = some (r1, r2) := by rw [if_pos rfl] at H; exact H
               clear H
               have H := H1
               clear H1
               by_cases c20 : x4_1.length < 140737488355328
               ·rw [if_pos c20] at H
                have LMc20 := Aside0.mk c20
                clear c20
                obtain ⟨y155, hy155⟩ : ∃ y_ : List Int, y_ = (x4_1 ++ [39]) := ⟨_, rfl⟩
                replace H : (domesdayref03_Shell.l0 kj16 a0 y155 t152 x6_1 (wrap64 ((wrap64 (x7_1 + 1)) + 1))) = some (r1, r2) := by first | (rw [hy155]; with_reducible exact H) | (have H2_ := (Option.bind_some _ _).symm.trans H; rw [hy155]; with_reducible exact H2_) | (have H2_ := (Option.bind_some _ _).symm.trans H; with_reducible exact H2_) | with_reducible exact H | (rw [hy155]; exact H) | exact H
                have Ny155 := Aside0.mk hy155
                clear hy155
                have H' := Aside0.mk H
                clear H
                go_wp2_with (first | ((with_reducible refine gate_builtin (b := .append) (xs := #[.tmp 51, .tmp 52]) rfl ?_); at_builtin; refine Kd.R_append (Kd.int .u8) (w0 := w) w.heap.size rfl (.tmp 51) (.tmp 52) 42 5 (.int .u8 0) 1 rfl Tryd.underlying42 info5 rfl (by decide) (by omega) u4 x4_1 39 [.int .u8 39] (fun _ => True) (fun _ => False) rfl rfl ?aP (fun _ hk => hk.elim) ?aF ?aO ?aB ?aS ?aL ?_; (case aP => exact rfl); (case aB => exact (by repeat (first | (with_reducible first | exact HB.out | apply below_alloc | apply pw_below_drewN | apply below_drew1) | exact HB.out))); (case aF => exact (fun _ _ => trivial)); (case aO => exact (by (with_reducible repeat (first | apply Kd.R_alloc | apply Kd.R_drewN | apply Kd.R_drew)); exact HO_4.out)); (case aS => exact (below_size (by repeat (first | (with_reducible first | exact HB.out | apply below_alloc | apply pw_below_drewN | apply below_drew1) | exact HB.out)))); (case aL => have := LMc20.out; omega); intro v156 w21 ho hb hg hat; rw [← Ny155.out] at ho; have n0_ := Aside0.mk (Kd.R_over' (by (with_reducible repeat (first | apply Kd.R_alloc | apply Kd.R_drewN | apply Kd.R_drew)); exact HO_5.out) (Kd.R_typed (by (with_reducible repeat (first | apply Kd.R_alloc | apply Kd.R_drewN | apply Kd.R_drew)); exact HO_4.out)) (by decide) hg); have n1_ := Aside0.mk (hb); have n2_ := Aside0.mk (ho); clear HO_5; clear HB; clear HO_4; have HO_5 := n0_; have HB := n1_; have HO157 := n2_; clear n0_ n1_ n2_; clear ho hb hg hat))
                go_roundg kj16
                case measure => have := HK1.out; have := HJ6.out; have := HJ13.out; have := HJ16.out; omega
                case rel => exact ⟨(y155), (x6_1), (wrap64 ((wrap64 (x7_1 + 1)) + 1)), (by first | rfl | (simp; done) | (simp [*]; done)), (by first | rfl | (simp; done) | (simp [*]; done)), H', ⟨by have := HK1.out; have := HJ6.out; have := HJ13.out; have := HJ16.out; omega⟩, ⟨by (with_reducible repeat (first | apply Kd.R_alloc | apply Kd.R_drewN | apply Kd.R_drew)); exact HO157.out⟩, ⟨by (with_reducible repeat (first | apply Kd.R_alloc | apply Kd.R_drewN | apply Kd.R_drew)); exact HO_5.out⟩, ⟨by repeat (first | (with_reducible first | exact HB.out | apply below_alloc | apply pw_below_drewN | apply below_drew1) | exact HB.out)⟩⟩
               ·rw [if_neg c20] at H
                exact absurd H (by simp)
              ·replace c19 := Bool.eq_false_iff.mpr c19
               subst c19
               have H1 : (if 0 ≤ x7_1 then (if x7_1 < (t152.length : Int) then (if (rd t152 x7_1) = 1 then (if x4_1.length < 140737488355328 then (domesdayref03_Shell.l0 kj16 a0 (x4_1 ++ [(bt a0 x7_1)]) t152 x6_1 (wrap64 (x7_1 + 1))) else (none)) else (some ((⟨#[]⟩ : ByteArray), false))) else (none)) else (none)) = some (r1, r2) := by rw [if_neg (show ¬ (false = true) by decide)] at H; exact H
               clear H
               have H := H1
               clear H1
               by_cases c22 : 0 ≤ x7_1
               ·rw [if_pos c22] at H
                have c22b0 : decide (0 ≤ x7_1) = true := decide_eq_true c22
                clear c22
                by_cases c23 : x7_1 < (t152.length : Int)
                ·rw [if_pos c23] at H
                 have c23b0 : decide (x7_1 < (t152.length : Int)) = true := decide_eq_true c23
                 clear c23
                 by_cases c24 : (rd t152 x7_1) = 1
                 ·rw [if_pos c24] at H
                  have c24b0 : ((rd t152 x7_1) == 1) = true := beq_iff_eq.mpr c24
                  have c24b1 : ((rd t152 x7_1) != 1) = false := bne_eq_false_iff_eq.mpr c24
                  clear c24
                  by_cases c25 : x4_1.length < 140737488355328
                  ·rw [if_pos c25] at H
                   have LMc25 := Aside0.mk c25
                   clear c25
                   obtain ⟨y159, hy159⟩ : ∃ y_ : List Int, y_ = (x4_1 ++ [(bt a0 x7_1)]) := ⟨_, rfl⟩
                   replace H : (domesdayref03_Shell.l0 kj16 a0 y159 t152 x6_1 (wrap64 (x7_1 + 1))) = some (r1, r2) := by first | (rw [hy159]; with_reducible exact H) | (have H2_ := (Option.bind_some _ _).symm.trans H; rw [hy159]; with_reducible exact H2_) | (have H2_ := (Option.bind_some _ _).symm.trans H; with_reducible exact H2_) | with_reducible exact H | (rw [hy159]; exact H) | exact H
                   have Ny159 := Aside0.mk hy159
                   clear hy159
                   have H' := Aside0.mk H
                   clear H
                   obtain ⟨Ao26, co26, eo26⟩ := Kd.R_slice HO_5.out
                   subst eo26
                   have p158 : 0 ≤ (x7_1 : Int) := of_decide_eq_true (by first | (with_reducible assumption) | assumption)
                   have q158 : x7_1 < (t152.length : Int) := of_decide_eq_true (by first | (with_reducible assumption) | assumption)
                   obtain ⟨ad158, e158, hx158_0⟩ := Kd.at_int (Kd.R_reads' HO_5.out).2.2 x7_1 p158 q158
                   cases e158
                   replace p158 := eq_true p158
                   replace q158 := eq_true q158
                   go_wp2_with (first | ((with_reducible refine gate_builtin (b := .append) (xs := #[.tmp 61, .tmp 63]) rfl ?_); at_builtin; refine Kd.R_append (Kd.int .u8) (w0 := w) w.heap.size rfl (.tmp 61) (.tmp 63) 42 5 (.int .u8 0) 1 rfl Tryd.underlying42 info5 rfl (by decide) (by omega) u4 x4_1 (bt a0 x7_1) [.int .u8 (bt a0 x7_1)] (fun _ => True) (fun _ => False) rfl rfl ?aP (fun _ hk => hk.elim) ?aF ?aO ?aB ?aS ?aL ?_; (case aP => exact rfl); (case aB => exact (by repeat (first | (with_reducible first | exact HB.out | apply below_alloc | apply pw_below_drewN | apply below_drew1) | exact HB.out))); (case aF => exact (fun _ _ => trivial)); (case aO => exact (by (with_reducible repeat (first | apply Kd.R_alloc | apply Kd.R_drewN | apply Kd.R_drew)); exact HO_4.out)); (case aS => exact (below_size (by repeat (first | (with_reducible first | exact HB.out | apply below_alloc | apply pw_below_drewN | apply below_drew1) | exact HB.out)))); (case aL => have := LMc25.out; omega); intro v160 w27 ho hb hg hat; rw [← Ny159.out] at ho; have n0_ := Aside0.mk (Kd.R_over' (by (with_reducible repeat (first | apply Kd.R_alloc | apply Kd.R_drewN | apply Kd.R_drew)); exact HO_5.out) (Kd.R_typed (by (with_reducible repeat (first | apply Kd.R_alloc | apply Kd.R_drewN | apply Kd.R_drew)); exact HO_4.out)) (by decide) hg); have n1_ := Aside0.mk (hb); have n2_ := Aside0.mk (ho); clear HO_5; clear HB; clear HO_4; have HO_5 := n0_; have HB := n1_; have HO161 := n2_; clear n0_ n1_ n2_; clear ho hb hg hat))
                   go_roundg kj16
                   case measure => have := HK1.out; have := HJ6.out; have := HJ13.out; have := HJ16.out; omega
                   case rel => exact ⟨(y159), (x6_1), (wrap64 (x7_1 + 1)), (by first | rfl | (simp; done) | (simp [*]; done)), (by first | rfl | (simp; done) | (simp [*]; done)), H', ⟨by have := HK1.out; have := HJ6.out; have := HJ13.out; have := HJ16.out; omega⟩, ⟨by (with_reducible repeat (first | apply Kd.R_alloc | apply Kd.R_drewN | apply Kd.R_drew)); exact HO161.out⟩, ⟨by (with_reducible repeat (first | apply Kd.R_alloc | apply Kd.R_drewN | apply Kd.R_drew)); exact HO_5.out⟩, ⟨by repeat (first | (with_reducible first | exact HB.out | apply below_alloc | apply pw_below_drewN | apply below_drew1) | exact HB.out)⟩⟩
                  ·rw [if_neg c25] at H
                   exact absurd H (by simp)
                 ·rw [if_neg c24] at H
                  have c24b0 : ((rd t152 x7_1) == 1) = false := beq_eq_false_iff_ne.mpr c24
                  have c24b1 : ((rd t152 x7_1) != 1) = true := bne_iff_ne.mpr c24
                  simp only [Option.some.injEq, Prod.mk.injEq] at H
                  obtain ⟨rfl, rfl⟩ := H
                  obtain ⟨Ao28, co28, eo28⟩ := Kd.R_slice HO_5.out
                  subst eo28
                  have p158 : 0 ≤ (x7_1 : Int) := of_decide_eq_true (by first | (with_reducible assumption) | assumption)
                  have q158 : x7_1 < (t152.length : Int) := of_decide_eq_true (by first | (with_reducible assumption) | assumption)
                  obtain ⟨ad158, e158, hx158_0⟩ := Kd.at_int (Kd.R_reads' HO_5.out).2.2 x7_1 p158 q158
                  cases e158
                  replace p158 := eq_true p158
                  replace q158 := eq_true q158
                  go_wp2
                  go_ret2
                  exact ⟨by first | rfl | (simp [errW_none, errW_some] <;> rfl) | (simp [*, errW_none, errW_some] <;> rfl), by repeat (first | (with_reducible first | exact HB.out | apply below_alloc | apply pw_below_drewN | apply below_drew1) | exact HB.out)⟩
                ·rw [if_neg c23] at H
                 exact absurd H (by simp)
               ·rw [if_neg c22] at H
                exact absurd H (by simp)
       ·rw [if_neg c12] at H
        have c12b0 : (x6_1 == 0) = false := beq_eq_false_iff_ne.mpr c12
        have c12b1 : (x6_1 != 0) = true := bne_iff_ne.mpr c12
        by_cases c29 : x6_1 = 1
        ·rw [if_pos c29] at H
         have c29b0 : (x6_1 == 1) = true := beq_iff_eq.mpr c29
         have c29b1 : (x6_1 != 1) = false := bne_eq_false_iff_eq.mpr c29
         clear c29
         by_cases c30 : (bt a0 x7_1) = 39
         ·rw [if_pos c30] at H
          have c30b0 : ((bt a0 x7_1) == 39) = true := beq_iff_eq.mpr c30
          have c30b1 : ((bt a0 x7_1) != 39) = false := bne_eq_false_iff_eq.mpr c30
          clear c30
          have H' := Aside0.mk H
          clear H
          go_wp2
          go_roundg kj6
          case measure => have := HK1.out; have := HJ6.out; omega
          case rel => exact ⟨(x4_1), (0), (wrap64 (x7_1 + 1)), (by first | rfl | (simp; done) | (simp [*]; done)), (by first | rfl | (simp; done) | (simp [*]; done)), H', ⟨by have := HK1.out; have := HJ6.out; omega⟩, ⟨by (with_reducible repeat (first | apply Kd.R_alloc | apply Kd.R_drewN | apply Kd.R_drew)); exact HO_4.out⟩, ⟨by (with_reducible repeat (first | apply Kd.R_alloc | apply Kd.R_drewN | apply Kd.R_drew)); exact HO_5.out⟩, ⟨by repeat (first | (with_reducible first | exact HB.out | apply below_alloc | apply pw_below_drewN | apply below_drew1) | exact HB.out)⟩⟩
         ·rw [if_neg c30] at H
          have c30b0 : ((bt a0 x7_1) == 39) = false := beq_eq_false_iff_ne.mpr c30
          have c30b1 : ((bt a0 x7_1) != 39) = true := bne_iff_ne.mpr c30
          by_cases c31 : x4_1.length < 140737488355328
          ·rw [if_pos c31] at H
           have LMc31 := Aside0.mk c31
           clear c31
           obtain ⟨y162, hy162⟩ : ∃ y_ : List Int, y_ = (x4_1 ++ [(bt a0 x7_1)]) := ⟨_, rfl⟩
           replace H : (domesdayref03_Shell.l0 kj6 a0 y162 t152 x6_1 (wrap64 (x7_1 + 1))) = some (r1, r2) := by first | (rw [hy162]; with_reducible exact H) | (have H2_ := (Option.bind_some _ _).symm.trans H; rw [hy162]; with_reducible exact H2_) | (have H2_ := (Option.bind_some _ _).symm.trans H; with_reducible exact H2_) | with_reducible exact H | (rw [hy162]; exact H) | exact H
           have Ny162 := Aside0.mk hy162
           clear hy162
           have H' := Aside0.mk H
           clear H
           go_wp2_with (first | ((with_reducible refine gate_builtin (b := .append) (xs := #[.tmp 69, .tmp 71]) rfl ?_); at_builtin; refine Kd.R_append (Kd.int .u8) (w0 := w) w.heap.size rfl (.tmp 69) (.tmp 71) 42 5 (.int .u8 0) 1 rfl Tryd.underlying42 info5 rfl (by decide) (by omega) u4 x4_1 (bt a0 x7_1) [.int .u8 (bt a0 x7_1)] (fun _ => True) (fun _ => False) rfl rfl ?aP (fun _ hk => hk.elim) ?aF ?aO ?aB ?aS ?aL ?_; (case aP => exact rfl); (case aB => exact (by repeat (first | (with_reducible first | exact HB.out | apply below_alloc | apply pw_below_drewN | apply below_drew1) | exact HB.out))); (case aF => exact (fun _ _ => trivial)); (case aO => exact (by (with_reducible repeat (first | apply Kd.R_alloc | apply Kd.R_drewN | apply Kd.R_drew)); exact HO_4.out)); (case aS => exact (below_size (by repeat (first | (with_reducible first | exact HB.out | apply below_alloc | apply pw_below_drewN | apply below_drew1) | exact HB.out)))); (case aL => have := LMc31.out; omega); intro v163 w32 ho hb hg hat; rw [← Ny162.out] at ho; have n0_ := Aside0.mk (Kd.R_over' (by (with_reducible repeat (first | apply Kd.R_alloc | apply Kd.R_drewN | apply Kd.R_drew)); exact HO_5.out) (Kd.R_typed (by (with_reducible repeat (first | apply Kd.R_alloc | apply Kd.R_drewN | apply Kd.R_drew)); exact HO_4.out)) (by decide) hg); have n1_ := Aside0.mk (hb); have n2_ := Aside0.mk (ho); clear HO_5; clear HB; clear HO_4; have HO_5 := n0_; have HB := n1_; have HO164 := n2_; clear n0_ n1_ n2_; clear ho hb hg hat))
           go_roundg kj6
           case measure => have := HK1.out; have := HJ6.out; omega
           case rel => exact ⟨(y162), (x6_1), (wrap64 (x7_1 + 1)), (by first | rfl | (simp; done) | (simp [*]; done)), (by first | rfl | (simp; done) | (simp [*]; done)), H', ⟨by have := HK1.out; have := HJ6.out; omega⟩, ⟨by (with_reducible repeat (first | apply Kd.R_alloc | apply Kd.R_drewN | apply Kd.R_drew)); exact HO164.out⟩, ⟨by (with_reducible repeat (first | apply Kd.R_alloc | apply Kd.R_drewN | apply Kd.R_drew)); exact HO_5.out⟩, ⟨by repeat (first | (with_reducible first | exact HB.out | apply below_alloc | apply pw_below_drewN | apply below_drew1) | exact HB.out)⟩⟩
          ·rw [if_neg c31] at H
           exact absurd H (by simp)
        ·rw [if_neg c29] at H
         have c29b0 : (x6_1 == 1) = false := beq_eq_false_iff_ne.mpr c29
         have c29b1 : (x6_1 != 1) = true := bne_iff_ne.mpr c29
         by_cases c33 : x6_1 = 2
         ·rw [if_pos c33] at H
          have c33b0 : (x6_1 == 2) = true := beq_iff_eq.mpr c33
          have c33b1 : (x6_1 != 2) = false := bne_eq_false_iff_eq.mpr c33
          clear c33
          by_cases c34 : (bt a0 x7_1) = 39
          ·rw [if_pos c34] at H
           have c34b0 : ((bt a0 x7_1) == 39) = true := beq_iff_eq.mpr c34
           have c34b1 : ((bt a0 x7_1) != 39) = false := bne_eq_false_iff_eq.mpr c34
           clear c34
           have H' := Aside0.mk H
           clear H
           go_wp2
           go_roundg kj6
           case measure => have := HK1.out; have := HJ6.out; omega
           case rel => exact ⟨(x4_1), (0), (wrap64 (x7_1 + 1)), (by first | rfl | (simp; done) | (simp [*]; done)), (by first | rfl | (simp; done) | (simp [*]; done)), H', ⟨by have := HK1.out; have := HJ6.out; omega⟩, ⟨by (with_reducible repeat (first | apply Kd.R_alloc | apply Kd.R_drewN | apply Kd.R_drew)); exact HO_4.out⟩, ⟨by (with_reducible repeat (first | apply Kd.R_alloc | apply Kd.R_drewN | apply Kd.R_drew)); exact HO_5.out⟩, ⟨by repeat (first | (with_reducible first | exact HB.out | apply below_alloc | apply pw_below_drewN | apply below_drew1) | exact HB.out)⟩⟩
          ·rw [if_neg c34] at H
           have c34b0 : ((bt a0 x7_1) == 39) = false := beq_eq_false_iff_ne.mpr c34
           have c34b1 : ((bt a0 x7_1) != 39) = true := bne_iff_ne.mpr c34
           replace H := Option.bind_eq_some_iff.mp H
           obtain ⟨⟨t165, t166⟩, A350, H⟩ := H
           replace H : (if (bt a0 x7_1) = 92 then (if t166 = 0 then (some ((⟨#[]⟩ : ByteArray), false)) else (if x4_1.length < 140737488355328 then (domesdayref03_Shell.l0 kj6 a0 (x4_1 ++ [t165]) t152 x6_1 (wrap64 ((wrap64 (x7_1 + t166)) + 1))) else (none))) else (some ((⟨#[]⟩ : ByteArray), false))) = some (r1, r2) := H
           have A35 := Aside0.mk A350
           clear A350
           by_cases c36 : (bt a0 x7_1) = 92
           ·rw [if_pos c36] at H
            have c36b0 : ((bt a0 x7_1) == 92) = true := beq_iff_eq.mpr c36
            have c36b1 : ((bt a0 x7_1) != 92) = false := bne_eq_false_iff_eq.mpr c36
            clear c36
            by_cases c37 : t166 = 0
            ·rw [if_pos c37] at H
             have c37b0 : (t166 == 0) = true := beq_iff_eq.mpr c37
             have c37b1 : (t166 != 0) = false := bne_eq_false_iff_eq.mpr c37
             clear c37
             simp only [Option.some.injEq, Prod.mk.injEq] at H
             obtain ⟨rfl, rfl⟩ := H
             go_wp2_with (first | ((with_reducible refine gate_callee (f := 29) rfl ?_); refine goesL_ (some 81) rfl rfl Tryd.func29 (by kernel_rfl) rfl #[.string a0, .int .i64 (wrap64 (x7_1 + 1))] rfl (by (try simp only [List.map_toArray, List.map_cons, List.map_nil]); first | done | rfl | (simp only [List.length_drop, List.length_take]; rfl)) ?_; (with_reducible refine (domesdayref03_one.calls kj6 a0 (wrap64 (x7_1 + 1)) t165 t166 _ A35.out).mono ?_); rintro e w' ⟨rfl, ⟨nd, rfl⟩⟩; refine ⟨_, rfl, ?_⟩))
             go_ret2
             exact ⟨by first | rfl | (simp [errW_none, errW_some] <;> rfl) | (simp [*, errW_none, errW_some] <;> rfl), by repeat (first | (with_reducible first | exact HB.out | apply below_alloc | apply pw_below_drewN | apply below_drew1) | exact HB.out)⟩
            ·rw [if_neg c37] at H
             have c37b0 : (t166 == 0) = false := beq_eq_false_iff_ne.mpr c37
             have c37b1 : (t166 != 0) = true := bne_iff_ne.mpr c37
             by_cases c38 : x4_1.length < 140737488355328
             ·rw [if_pos c38] at H
              have LMc38 := Aside0.mk c38
              clear c38
              obtain ⟨y167, hy167⟩ : ∃ y_ : List Int, y_ = (x4_1 ++ [t165]) := ⟨_, rfl⟩
              replace H : (domesdayref03_Shell.l0 kj6 a0 y167 t152 x6_1 (wrap64 ((wrap64 (x7_1 + t166)) + 1))) = some (r1, r2) := by first | (rw [hy167]; with_reducible exact H) | (have H2_ := (Option.bind_some _ _).symm.trans H; rw [hy167]; with_reducible exact H2_) | (have H2_ := (Option.bind_some _ _).symm.trans H; with_reducible exact H2_) | with_reducible exact H | (rw [hy167]; exact H) | exact H
              have Ny167 := Aside0.mk hy167
              clear hy167
              have H' := Aside0.mk H
              clear H
              go_wp2_with (first | ((with_reducible refine gate_callee (f := 29) rfl ?_); refine goesL_ (some 81) rfl rfl Tryd.func29 (by kernel_rfl) rfl #[.string a0, .int .i64 (wrap64 (x7_1 + 1))] rfl (by (try simp only [List.map_toArray, List.map_cons, List.map_nil]); first | done | rfl | (simp only [List.length_drop, List.length_take]; rfl)) ?_; (with_reducible refine (domesdayref03_one.calls kj6 a0 (wrap64 (x7_1 + 1)) t165 t166 _ A35.out).mono ?_); rintro e w' ⟨rfl, ⟨nd, rfl⟩⟩; refine ⟨_, rfl, ?_⟩) | ((with_reducible refine gate_builtin (b := .append) (xs := #[.tmp 90, .tmp 92]) rfl ?_); at_builtin; refine Kd.R_append (Kd.int .u8) (w0 := w) w.heap.size rfl (.tmp 90) (.tmp 92) 42 5 (.int .u8 0) 1 rfl Tryd.underlying42 info5 rfl (by decide) (by omega) u4 x4_1 t165 [.int .u8 t165] (fun _ => True) (fun _ => False) rfl rfl ?aP (fun _ hk => hk.elim) ?aF ?aO ?aB ?aS ?aL ?_; (case aP => exact rfl); (case aB => exact (by repeat (first | (with_reducible first | exact HB.out | apply below_alloc | apply pw_below_drewN | apply below_drew1) | exact HB.out))); (case aF => exact (fun _ _ => trivial)); (case aO => exact (by (with_reducible repeat (first | apply Kd.R_alloc | apply Kd.R_drewN | apply Kd.R_drew)); exact HO_4.out)); (case aS => exact (below_size (by repeat (first | (with_reducible first | exact HB.out | apply below_alloc | apply pw_below_drewN | apply below_drew1) | exact HB.out)))); (case aL => have := LMc38.out; omega); intro v168 w39 ho hb hg hat; rw [← Ny167.out] at ho; have n0_ := Aside0.mk (Kd.R_over' (by (with_reducible repeat (first | apply Kd.R_alloc | apply Kd.R_drewN | apply Kd.R_drew)); exact HO_5.out) (Kd.R_typed (by (with_reducible repeat (first | apply Kd.R_alloc | apply Kd.R_drewN | apply Kd.R_drew)); exact HO_4.out)) (by decide) hg); have n1_ := Aside0.mk (hb); have n2_ := Aside0.mk (ho); clear HO_5; clear HB; clear HO_4; have HO_5 := n0_; have HB := n1_; have HO169 := n2_; clear n0_ n1_ n2_; clear ho hb hg hat))
              go_roundg kj6
              case measure => have := HK1.out; have := HJ6.out; omega
              case rel => exact ⟨(y167), (x6_1), (wrap64 ((wrap64 (x7_1 + t166)) + 1)), (by first | rfl | (simp; done) | (simp [*]; done)), (by first | rfl | (simp; done) | (simp [*]; done)), H', ⟨by have := HK1.out; have := HJ6.out; omega⟩, ⟨by (with_reducible repeat (first | apply Kd.R_alloc | apply Kd.R_drewN | apply Kd.R_drew)); exact HO169.out⟩, ⟨by (with_reducible repeat (first | apply Kd.R_alloc | apply Kd.R_drewN | apply Kd.R_drew)); exact HO_5.out⟩, ⟨by repeat (first | (with_reducible first | exact HB.out | apply below_alloc | apply pw_below_drewN | apply below_drew1) | exact HB.out)⟩⟩
             ·rw [if_neg c38] at H
              exact absurd H (by simp)
           ·rw [if_neg c36] at H
            have c36b0 : ((bt a0 x7_1) == 92) = false := beq_eq_false_iff_ne.mpr c36
            have c36b1 : ((bt a0 x7_1) != 92) = true := bne_iff_ne.mpr c36
            simp only [Option.some.injEq, Prod.mk.injEq] at H
            obtain ⟨rfl, rfl⟩ := H
            go_wp2_with (first | ((with_reducible refine gate_callee (f := 29) rfl ?_); refine goesL_ (some 81) rfl rfl Tryd.func29 (by kernel_rfl) rfl #[.string a0, .int .i64 (wrap64 (x7_1 + 1))] rfl (by (try simp only [List.map_toArray, List.map_cons, List.map_nil]); first | done | rfl | (simp only [List.length_drop, List.length_take]; rfl)) ?_; (with_reducible refine (domesdayref03_one.calls kj6 a0 (wrap64 (x7_1 + 1)) t165 t166 _ A35.out).mono ?_); rintro e w' ⟨rfl, ⟨nd, rfl⟩⟩; refine ⟨_, rfl, ?_⟩))
            go_ret2
            exact ⟨by first | rfl | (simp [errW_none, errW_some] <;> rfl) | (simp [*, errW_none, errW_some] <;> rfl), by repeat (first | (with_reducible first | exact HB.out | apply below_alloc | apply pw_below_drewN | apply below_drew1) | exact HB.out)⟩
         ·rw [if_neg c33] at H
          have c33b0 : (x6_1 == 2) = false := beq_eq_false_iff_ne.mpr c33
          have c33b1 : (x6_1 != 2) = true := bne_iff_ne.mpr c33
          have H' := Aside0.mk H
          clear H
          go_wp2
          go_roundg kj6
          case measure => have := HK1.out; have := HJ6.out; omega
          case rel => exact ⟨(x4_1), (x6_1), (wrap64 (x7_1 + 1)), (by first | rfl | (simp; done) | (simp [*]; done)), (by first | rfl | (simp; done) | (simp [*]; done)), H', ⟨by have := HK1.out; have := HJ6.out; omega⟩, ⟨by (with_reducible repeat (first | apply Kd.R_alloc | apply Kd.R_drewN | apply Kd.R_drew)); exact HO_4.out⟩, ⟨by (with_reducible repeat (first | apply Kd.R_alloc | apply Kd.R_drewN | apply Kd.R_drew)); exact HO_5.out⟩, ⟨by repeat (first | (with_reducible first | exact HB.out | apply below_alloc | apply pw_below_drewN | apply below_drew1) | exact HB.out)⟩⟩
    ·rw [if_neg c5] at H
     exact absurd H (by simp)
   ·rw [if_neg c4] at H
    have c4b0 : decide (x7_1 < (a0.size : Int)) = false := decide_eq_false c4
    clear c4
    by_cases c40 : x6_1 = 0
    ·rw [if_pos c40] at H
     have c40b0 : (x6_1 == 0) = true := beq_iff_eq.mpr c40
     have c40b1 : (x6_1 != 0) = false := bne_eq_false_iff_eq.mpr c40
     clear c40
     by_cases c41 : a0.toList = ([] : List UInt8)
     ·rw [if_pos c41] at H
      have c41b0 : (a0.toList == ([] : List UInt8)) = true := beq_iff_eq.mpr c41
      have c41b1 : (a0.toList != ([] : List UInt8)) = false := bne_eq_false_iff_eq.mpr c41
      clear c41
      simp only [Option.some.injEq, Prod.mk.injEq] at H
      obtain ⟨rfl, rfl⟩ := H
      go_wp2
      go_ret2
      exact ⟨by first | rfl | (simp [errW_none, errW_some] <;> rfl) | (simp [*, errW_none, errW_some] <;> rfl), by repeat (first | (with_reducible first | exact HB.out | apply below_alloc | apply pw_below_drewN | apply below_drew1) | exact HB.out)⟩
     ·rw [if_neg c41] at H
      have c41b0 : (a0.toList == ([] : List UInt8)) = false := beq_eq_false_iff_ne.mpr c41
      have c41b1 : (a0.toList != ([] : List UInt8)) = true := bne_iff_ne.mpr c41
      simp only [Option.some.injEq, Prod.mk.injEq] at H
      obtain ⟨rfl, rfl⟩ := H
      have hcv42 := own_string (P := Tryd.prog) Tryd.underlying42 Tryd.underlying5 Tryd.underlying9 (Kd.own_of_R HO_4.out)
      go_wp2
      go_ret2
      exact ⟨by first | rfl | (simp [errW_none, errW_some] <;> rfl) | (simp [*, errW_none, errW_some] <;> rfl), by repeat (first | (with_reducible first | exact HB.out | apply below_alloc | apply pw_below_drewN | apply below_drew1) | exact HB.out)⟩
    ·rw [if_neg c40] at H
     have c40b0 : (x6_1 == 0) = false := beq_eq_false_iff_ne.mpr c40
     have c40b1 : (x6_1 != 0) = true := bne_iff_ne.mpr c40
     simp only [Option.some.injEq, Prod.mk.injEq] at H
     obtain ⟨rfl, rfl⟩ := H
     go_wp2
     go_ret2
     exact ⟨by first | rfl | (simp [errW_none, errW_some] <;> rfl) | (simp [*, errW_none, errW_some] <;> rfl), by repeat (first | (with_reducible first | exact HB.out | apply below_alloc | apply pw_below_drewN | apply below_drew1) | exact HB.out)⟩
/-! ### domesdayref03_C: function 15 -/
mutual
def domesdayref03_C.j0 : Nat → ByteArray → Bool → Option (ByteArray × Bool)
 | 0, _, _ => none
 | k + 1, x0, x23 => if x23 = true then (some ((⟨#[]⟩ : ByteArray), false)) else (if 1 ≤ (wrap64 ((x0.size : Int) - 1)) then (if (wrap64 ((x0.size : Int) - 1)) ≤ (x0.size : Int) then (domesdayref03_C.l0 k (x0.extract 1 ((wrap64 ((x0.size : Int) - 1)) : Int).toNat) ([] : List Int) 0) else (none)) else (none))
def domesdayref03_C.l0 : Nat → ByteArray → List Int → Int → Option (ByteArray × Bool)
 | 0, _, _, _ => none
 | k + 1, x0, x4, x5 => if x5 < (x0.size : Int) then (if 0 ≤ x5 then (if (bt x0 x5) = 34 then (some ((⟨#[]⟩ : ByteArray), false)) else (if (bt x0 x5) = 92 then (if (wrap64 (x5 + 1)) < (x0.size : Int) then (if 0 ≤ (wrap64 (x5 + 1)) then (if (bt x0 (wrap64 (x5 + 1))) = 34 then (domesdayref03_C.j2 k x0 x4 x5 true) else (domesdayref03_C.j2 k x0 x4 x5 ((bt x0 (wrap64 (x5 + 1))) == 92))) else (none)) else (domesdayref03_C.j2 k x0 x4 x5 false)) else (if x4.length < 140737488355328 then (domesdayref03_C.l0 k x0 (x4 ++ [bt x0 x5]) (wrap64 (x5 + 1))) else (none)))) else (none)) else (some (strOfNums x4, true))
def domesdayref03_C.j2 : Nat → ByteArray → List Int → Int → Bool → Option (ByteArray × Bool)
 | 0, _, _, _, _ => none
 | k + 1, x0, x4, x5, x67 => if x67 = true then (if 0 ≤ (wrap64 (x5 + 1)) then (if (wrap64 (x5 + 1)) < (x0.size : Int) then (if x4.length < 140737488355328 then (domesdayref03_C.l0 k x0 (x4 ++ [bt x0 (wrap64 (x5 + 1))]) (wrap64 ((wrap64 (x5 + 1)) + 1))) else (none)) else (none)) else (none)) else ((domesdayref03_one.f k x0 (wrap64 (x5 + 1))).bind fun bt187 => (if bt187.2 = 0 then (some ((⟨#[]⟩ : ByteArray), false)) else (if x4.length < 140737488355328 then (domesdayref03_C.l0 k x0 (x4 ++ [bt187.1]) (wrap64 ((wrap64 (x5 + bt187.2)) + 1))) else (none))))
end
def domesdayref03_C.f (k : Nat) (a0 : ByteArray) : Option (ByteArray × Bool) := if (a0.size : Int) < 2 then (domesdayref03_C.j0 k a0 true) else (if 0 < (a0.size : Int) then (if (bt a0 0) = 34 then (if 0 ≤ (wrap64 ((a0.size : Int) - 1)) then (if (wrap64 ((a0.size : Int) - 1)) < (a0.size : Int) then (domesdayref03_C.j0 k a0 ((bt a0 (wrap64 ((a0.size : Int) - 1))) != 34)) else (none)) else (none)) else (domesdayref03_C.j0 k a0 true)) else (none))
theorem domesdayref03_C.mono_l : ∀ k, (∀ y0 y1, LeO (domesdayref03_C.j0 k y0 y1) (domesdayref03_C.j0 (k + 1) y0 y1)) ∧ (∀ y0 y1 y2, LeO (domesdayref03_C.l0 k y0 y1 y2) (domesdayref03_C.l0 (k + 1) y0 y1 y2)) ∧ (∀ y0 y1 y2 y3, LeO (domesdayref03_C.j2 k y0 y1 y2 y3) (domesdayref03_C.j2 (k + 1) y0 y1 y2 y3))
 | 0 => ⟨fun _ _ r h => by simp [domesdayref03_C.j0] at h, fun _ _ _ r h => by simp [domesdayref03_C.l0] at h, fun _ _ _ _ r h => by simp [domesdayref03_C.j2] at h⟩
 | k + 1 => by
  obtain ⟨ih0, ih1, ih2⟩ := domesdayref03_C.mono_l k
  refine ⟨?_, ?_, ?_⟩
  ·intro y0 y1
   unfold domesdayref03_C.j0
   repeat' first
   | (with_reducible exact ih0 _ _)
   | (with_reducible exact ih1 _ _ _)
   | (with_reducible exact ih2 _ _ _ _)
   | (with_reducible exact domesdayref03_one.mono _ _ _)
   | (with_reducible exact LeO.refl _)
   | (with_reducible exact LeO.none _)
   | (with_reducible refine LeO.ite ?_ ?_)
   | (with_reducible refine LeO.bind ?_ (fun _ => ?_))
   | exact ih0 _ _
   | exact ih1 _ _ _
   | exact ih2 _ _ _ _
   | exact domesdayref03_one.mono _ _ _
   | exact LeO.none _
   | refine LeO.ite ?_ ?_
   | refine LeO.bind ?_ (fun _ => ?_)
  ·intro y0 y1 y2
   unfold domesdayref03_C.l0
   repeat' first
   | (with_reducible exact ih0 _ _)
   | (with_reducible exact ih1 _ _ _)
   | (with_reducible exact ih2 _ _ _ _)
   | (with_reducible exact domesdayref03_one.mono _ _ _)
   | (with_reducible exact LeO.refl _)
   | (with_reducible exact LeO.none _)
   | (with_reducible refine LeO.ite ?_ ?_)
   | (with_reducible refine LeO.bind ?_ (fun _ => ?_))
   | exact ih0 _ _
   | exact ih1 _ _ _
   | exact ih2 _ _ _ _
   | exact domesdayref03_one.mono _ _ _
   | exact LeO.none _
   | refine LeO.ite ?_ ?_
   | refine LeO.bind ?_ (fun _ => ?_)
  ·intro y0 y1 y2 y3
   unfold domesdayref03_C.j2
   repeat' first
   | (with_reducible exact ih0 _ _)
   | (with_reducible exact ih1 _ _ _)
   | (with_reducible exact ih2 _ _ _ _)
   | (with_reducible exact domesdayref03_one.mono _ _ _)
   | (with_reducible exact LeO.refl _)
   | (with_reducible exact LeO.none _)
   | (with_reducible refine LeO.ite ?_ ?_)
   | (with_reducible refine LeO.bind ?_ (fun _ => ?_))
   | exact ih0 _ _
   | exact ih1 _ _ _
   | exact ih2 _ _ _ _
   | exact domesdayref03_one.mono _ _ _
   | exact LeO.none _
   | refine LeO.ite ?_ ?_
   | refine LeO.bind ?_ (fun _ => ?_)
theorem domesdayref03_C.mono : ∀ a0 k, LeO (domesdayref03_C.f k a0) (domesdayref03_C.f (k + 1) a0) := by
 intro a0 k
 obtain ⟨ih0, ih1, ih2⟩ := domesdayref03_C.mono_l k
 unfold domesdayref03_C.f
 repeat' first
   | (with_reducible exact ih0 _ _)
   | (with_reducible exact ih1 _ _ _)
   | (with_reducible exact ih2 _ _ _ _)
   | (with_reducible exact domesdayref03_one.mono _ _ _)
   | (with_reducible exact LeO.refl _)
   | (with_reducible exact LeO.none _)
   | (with_reducible refine LeO.ite ?_ ?_)
   | (with_reducible refine LeO.bind ?_ (fun _ => ?_))
   | exact ih0 _ _
   | exact ih1 _ _ _
   | exact ih2 _ _ _ _
   | exact domesdayref03_one.mono _ _ _
   | exact LeO.none _
   | refine LeO.ite ?_ ?_
   | refine LeO.bind ?_ (fun _ => ?_)
set_option maxHeartbeats 8000000 in
set_option maxRecDepth 100000 in
theorem domesdayref03_C.calls (k : Nat) (a0 : ByteArray) (r1 : ByteArray) (r2 : Bool) (w : World) (h : domesdayref03_C.f k a0 = some (r1, r2)) :
  Calls Tryd.prog 15 #[.string a0] w fun e w' => e = .returned (.tuple #[.string r1, .bool r2]) ∧ Below w.heap.size w w' := by
 have HB := Aside0.mk (Below.refl w.heap.size w)
 have H : (if (a0.size : Int) < 2 then (domesdayref03_C.j0 k a0 true) else (if 0 < (a0.size : Int) then (if (bt a0 0) = 34 then (if 0 ≤ (wrap64 ((a0.size : Int) - 1)) then (if (wrap64 ((a0.size : Int) - 1)) < (a0.size : Int) then (domesdayref03_C.j0 k a0 ((bt a0 (wrap64 ((a0.size : Int) - 1))) != 34)) else (none)) else (none)) else (domesdayref03_C.j0 k a0 true)) else (none))) = some (r1, r2) := h
 clear h
 have HC2 := Aside0.mk H
 clear H
 go_enter Tryd.func15, Tryd.ntmps15
 go_upto_region 1 with (fail)
 go_cut [23] (fun v23 wc => ∃ (kq : Nat) (x23_1 : Bool), v23 = .bool x23_1 ∧ Aside0 (domesdayref03_C.j0 kq a0 x23_1 = some (r1, r2)) ∧ Aside0 (kq ≤ k) ∧ Aside0 (Below w.heap.size w wc))
 case first =>
  have H := HC2.out
  clear HC2
  by_cases c3 : (a0.size : Int) < 2
  ·rw [if_pos c3] at H
   have c3b0 : decide ((a0.size : Int) < 2) = true := decide_eq_true c3
   have c3b1 : decide (a0.size < 2) = true := decide_eq_true (by omega)
   clear c3
   (first | rw [c3b0] | (simp only [i64_w, i32_w]; rw [c3b0]) | skip)
   have H' := Aside0.mk H
   clear H
   go_wp2
   go_meet
   case rel => exact ⟨_, (true), (by first | rfl | (simp; done) | (simp [*]; done)), H', ⟨by first | omega | exact Nat.le_refl _⟩, ⟨by repeat (first | (with_reducible first | exact HB.out | apply below_alloc | apply pw_below_drewN | apply below_drew1) | exact HB.out)⟩⟩
  ·rw [if_neg c3] at H
   have c3b0 : decide ((a0.size : Int) < 2) = false := decide_eq_false c3
   have c3b1 : decide (a0.size < 2) = false := decide_eq_false (by omega)
   clear c3
   (first | rw [c3b0] | (simp only [i64_w, i32_w]; rw [c3b0]) | skip)
   by_cases c4 : 0 < (a0.size : Int)
   ·rw [if_pos c4] at H
    have c4b0 : decide (0 < (a0.size : Int)) = true := decide_eq_true c4
    have c4b1 : decide (0 < a0.size) = true := decide_eq_true (by omega)
    clear c4
    by_cases c6 : (bt a0 0) = 34
    ·rw [if_pos c6] at H
     have c6b0 : ((bt a0 0) == 34) = true := beq_iff_eq.mpr c6
     have c6b1 : ((bt a0 0) != 34) = false := bne_eq_false_iff_eq.mpr c6
     clear c6
     obtain ⟨ji7, hji7⟩ : ∃ j_ : Int, (wrap64 ((a0.size : Int) - 1)) = j_ := ⟨_, rfl⟩
     replace H : (if 0 ≤ (ji7) then (if (ji7) < (a0.size : Int) then (domesdayref03_C.j0 k a0 ((bt a0 (ji7)) != 34)) else (none)) else (none)) = some (r1, r2) := by first | (rw [hji7] at H; exact H) | (simp only [hji7] at H ⊢; exact H)
     have hji7w : (IntKind.i64.wrap ((a0.size : Int) - 1)) = ji7 := (i64_w _).trans hji7
     by_cases c8 : 0 ≤ (ji7)
     ·rw [if_pos c8] at H
      have c8b0 : decide (0 ≤ (ji7)) = true := decide_eq_true c8
      clear c8
      by_cases c9 : (ji7) < (a0.size : Int)
      ·rw [if_pos c9] at H
       have c9b0 : decide ((ji7) < (a0.size : Int)) = true := decide_eq_true c9
       clear c9
       have H' := Aside0.mk H
       clear H
       have p5 : 0 ≤ (0 : Int) := (by omega)
       have q5 : 0 < a0.size := (by have : (0 : Int) < (a0.size : Int) := of_decide_eq_true (by first | (with_reducible assumption) | assumption); omega)
       have hx5 : ∀ h : 0 < a0.size, ((a0[0]'h).toNat : Int) = bt a0 0 := bt_at a0 0
       clear p5
       have qi5 : (0 < (a0.size : Int)) = True := eq_true (of_decide_eq_true (by first | (with_reducible assumption) | assumption))
       replace q5 := eq_true q5
       have p10 : 0 ≤ ((ji7) : Int) := of_decide_eq_true (by first | (with_reducible assumption) | assumption)
       have q10 : (ji7) < (a0.size : Int) := of_decide_eq_true (by first | (with_reducible assumption) | assumption)
       have hx10 := bt_at a0 (ji7)
       replace p10 := eq_true p10
       replace q10 := eq_true q10
       go_wp2
       go_meet
       case rel => exact ⟨_, (((bt a0 (ji7)) != 34)), (by first | rfl | (simp; done) | (simp only [← hji7] <;> (first | rfl | simp)) | (simp [*]; done)), H', ⟨by first | omega | exact Nat.le_refl _⟩, ⟨by repeat (first | (with_reducible first | exact HB.out | apply below_alloc | apply pw_below_drewN | apply below_drew1) | exact HB.out)⟩⟩
      ·rw [if_neg c9] at H
       exact absurd H (by simp)
     ·rw [if_neg c8] at H
      exact absurd H (by simp)
    ·rw [if_neg c6] at H
     have c6b0 : ((bt a0 0) == 34) = false := beq_eq_false_iff_ne.mpr c6
     have c6b1 : ((bt a0 0) != 34) = true := bne_iff_ne.mpr c6
     have H' := Aside0.mk H
     clear H
     have p5 : 0 ≤ (0 : Int) := (by omega)
     have q5 : 0 < a0.size := (by have : (0 : Int) < (a0.size : Int) := of_decide_eq_true (by first | (with_reducible assumption) | assumption); omega)
     have hx5 : ∀ h : 0 < a0.size, ((a0[0]'h).toNat : Int) = bt a0 0 := bt_at a0 0
     clear p5
     have qi5 : (0 < (a0.size : Int)) = True := eq_true (of_decide_eq_true (by first | (with_reducible assumption) | assumption))
     replace q5 := eq_true q5
     go_wp2
     go_meet
     case rel => exact ⟨_, (true), (by first | rfl | (simp; done) | (simp [*]; done)), H', ⟨by first | omega | exact Nat.le_refl _⟩, ⟨by repeat (first | (with_reducible first | exact HB.out | apply below_alloc | apply pw_below_drewN | apply below_drew1) | exact HB.out)⟩⟩
   ·rw [if_neg c4] at H
    exact absurd H (by simp)
 case rest =>
  clear HC2
  (try clear c1); (try clear p1); (try clear q1); (try clear hx1); (try clear p2); (try clear c3); (try clear c3b0); (try clear c3b1); (try clear c4); (try clear c4b0); (try clear c4b1); (try clear p5); (try clear q5); (try clear hx5); (try clear qi5); (try clear c6); (try clear c6b0); (try clear c6b1); (try clear p6); (try clear c8); (try clear c8b0); (try clear c9); (try clear c9b0); (try clear p10); (try clear q10); (try clear hx10); (try clear p10); (try clear p5); (try clear q10); (try clear q5)
  obtain ⟨kq, x23_1, rfl, HA, HJ1, HB⟩ := hcut
  cases kq with
  | zero => exact absurd HA.out (by simp [domesdayref03_C.j0])
  | succ kj1 =>
   have H := HA.out
   clear HA
   simp only [domesdayref03_C.j0] at H
   by_cases c11 : x23_1 = true
   ·subst c11
    have H1 : (some ((⟨#[]⟩ : ByteArray), false)) = some (r1, r2) := by rw [if_pos rfl] at H; exact H
    clear H
    have H := H1
    clear H1
    simp only [Option.some.injEq, Prod.mk.injEq] at H
    obtain ⟨rfl, rfl⟩ := H
    go_wp2
    go_ret2
    exact ⟨by first | rfl | (simp [errW_none, errW_some] <;> rfl) | (simp [*, errW_none, errW_some] <;> rfl), by repeat (first | (with_reducible first | exact HB.out | apply below_alloc | apply pw_below_drewN | apply below_drew1) | exact HB.out)⟩
   ·replace c11 := Bool.eq_false_iff.mpr c11
    subst c11
    have H1 : (if 1 ≤ (wrap64 ((a0.size : Int) - 1)) then (if (wrap64 ((a0.size : Int) - 1)) ≤ (a0.size : Int) then (domesdayref03_C.l0 kj1 (a0.extract 1 ((wrap64 ((a0.size : Int) - 1)) : Int).toNat) ([] : List Int) 0) else (none)) else (none)) = some (r1, r2) := by rw [if_neg (show ¬ (false = true) by decide)] at H; exact H
    clear H
    have H := H1
    clear H1
    by_cases c12 : 1 ≤ (wrap64 ((a0.size : Int) - 1))
    ·rw [if_pos c12] at H
     have c12b0 := eq_true c12
     have c12b1 : decide (1 ≤ (wrap64 ((a0.size : Int) - 1))) = true := decide_eq_true c12
     clear c12
     by_cases c13 : (wrap64 ((a0.size : Int) - 1)) ≤ (a0.size : Int)
     ·rw [if_pos c13] at H
      have c13b0 := eq_true c13
      have c13b1 : decide ((wrap64 ((a0.size : Int) - 1)) ≤ (a0.size : Int)) = true := decide_eq_true c13
      clear c13
      have H' := Aside0.mk H
      clear H
      go_wp2
      generalize (a0.extract 1 ((wrap64 ((a0.size : Int) - 1)) : Int).toNat) = y0_ at H' ⊢
      go_loopg [4, 5] kj1 (fun kq v4 v5 w' => ∃ (x4_2 : List Int) (x5_2 : Int), v5 = .int .i64 x5_2 ∧ Aside0 (domesdayref03_C.l0 kq y0_ x4_2 x5_2 = some (r1, r2)) ∧ Aside0 (kq ≤ kj1) ∧ Aside0 (Kd.R (Kd.int .u8) 5 w' w.heap.size (fun _ => True) v4 x4_2) ∧ Aside0 (Below w.heap.size w w'))
      case atStart => exact ⟨(([] : List Int)), (0), (by first | rfl | (simp; done) | (simp [*]; done)), H', ⟨Nat.le_refl _⟩, ⟨by first | exact Kd.R_nil _ _ _ _ _ | exact Kd.N_nil _ _ _ _ _ | exact Kd.V_nil _ _ _ _ _ | exact Kd.Q_nil _ _ _ _ _ | exact Kd.S_nil _ _ _ _ _⟩, ⟨by repeat (first | (with_reducible first | exact HB.out | apply below_alloc | apply pw_below_drewN | apply below_drew1) | exact HB.out)⟩⟩
      case round =>
       clear H'
       (try clear c1); (try clear p1); (try clear q1); (try clear hx1); (try clear p2); (try clear c3); (try clear c3b0); (try clear c3b1); (try clear c4); (try clear c4b0); (try clear c4b1); (try clear p5); (try clear q5); (try clear hx5); (try clear qi5); (try clear c6); (try clear c6b0); (try clear c6b1); (try clear p6); (try clear c8); (try clear c8b0); (try clear c9); (try clear c9b0); (try clear p10); (try clear q10); (try clear hx10); (try clear c11); (try clear c12); (try clear c12b0); (try clear c12b1); (try clear c13); (try clear c13b0); (try clear c13b1); (try clear p1); (try clear p10); (try clear p2); (try clear p5); (try clear p6); (try clear q1); (try clear q10); (try clear q5)
       obtain ⟨x4_2, x5_2, rfl, HA, HK2, HO_4, HB⟩ := hrel
       cases gk with
       | zero => exact absurd HA.out (by simp [domesdayref03_C.l0])
       | succ k2 =>
        have H := HA.out
        clear HA
        simp only [domesdayref03_C.l0] at H
        by_cases c14 : x5_2 < (y0_.size : Int)
        ·rw [if_pos c14] at H
         have c14b0 : decide (x5_2 < (y0_.size : Int)) = true := decide_eq_true c14
         clear c14
         by_cases c15 : 0 ≤ x5_2
         ·rw [if_pos c15] at H
          have c15b0 : decide (0 ≤ x5_2) = true := decide_eq_true c15
          clear c15
          by_cases c17 : (bt y0_ x5_2) = 34
          ·rw [if_pos c17] at H
           have c17b0 : ((bt y0_ x5_2) == 34) = true := beq_iff_eq.mpr c17
           have c17b1 : ((bt y0_ x5_2) != 34) = false := bne_eq_false_iff_eq.mpr c17
           clear c17
           simp only [Option.some.injEq, Prod.mk.injEq] at H
           obtain ⟨rfl, rfl⟩ := H
           have p16 : 0 ≤ (x5_2 : Int) := of_decide_eq_true (by first | (with_reducible assumption) | assumption)
           have q16 : x5_2 < (y0_.size : Int) := of_decide_eq_true (by first | (with_reducible assumption) | assumption)
           have hx16 := bt_at y0_ x5_2
           replace p16 := eq_true p16
           replace q16 := eq_true q16
           go_wp2
           go_ret2
           exact ⟨by first | rfl | (simp [errW_none, errW_some] <;> rfl) | (simp [*, errW_none, errW_some] <;> rfl), by repeat (first | (with_reducible first | exact HB.out | apply below_alloc | apply pw_below_drewN | apply below_drew1) | exact HB.out)⟩
          ·rw [if_neg c17] at H
           have c17b0 : ((bt y0_ x5_2) == 34) = false := beq_eq_false_iff_ne.mpr c17
           have c17b1 : ((bt y0_ x5_2) != 34) = true := bne_iff_ne.mpr c17
           by_cases c19 : (bt y0_ x5_2) = 92
           ·rw [if_pos c19] at H
            have c19b0 : ((bt y0_ x5_2) == 92) = true := beq_iff_eq.mpr c19
            have c19b1 : ((bt y0_ x5_2) != 92) = false := bne_eq_false_iff_eq.mpr c19
            clear c19
            have HC20 := Aside0.mk H
            clear H
            have p16 : 0 ≤ (x5_2 : Int) := of_decide_eq_true (by first | (with_reducible assumption) | assumption)
            have q16 : x5_2 < (y0_.size : Int) := of_decide_eq_true (by first | (with_reducible assumption) | assumption)
            have hx16 := bt_at y0_ x5_2
            replace p16 := eq_true p16
            replace q16 := eq_true q16
            have p18 : 0 ≤ (x5_2 : Int) := of_decide_eq_true (by first | (with_reducible assumption) | assumption)
            have q18 : x5_2 < (y0_.size : Int) := of_decide_eq_true (by first | (with_reducible assumption) | assumption)
            have hx18 := bt_at y0_ x5_2
            replace p18 := eq_true p18
            replace q18 := eq_true q18
            go_upto_region 12 with (fail)
            go_cut [67] (fun v67 wc => ∃ (kq : Nat) (x67_19 : Bool), v67 = .bool x67_19 ∧ Aside0 (domesdayref03_C.j2 kq y0_ x4_2 x5_2 x67_19 = some (r1, r2)) ∧ Aside0 (kq ≤ k2) ∧ Aside0 (Kd.R (Kd.int .u8) 5 wc w.heap.size (fun _ => True) u4 x4_2) ∧ Aside0 (Below w.heap.size w wc))
            case first =>
             have H := HC20.out
             clear HC20
             by_cases c21 : (wrap64 (x5_2 + 1)) < (y0_.size : Int)
             ·rw [if_pos c21] at H
              have c21b0 : decide ((wrap64 (x5_2 + 1)) < (y0_.size : Int)) = true := decide_eq_true c21
              clear c21
              (first | rw [c21b0] | (simp only [i64_w, i32_w]; rw [c21b0]) | skip)
              obtain ⟨ji22, hji22⟩ : ∃ j_ : Int, (wrap64 (x5_2 + 1)) = j_ := ⟨_, rfl⟩
              replace H : (if 0 ≤ (ji22) then (if (bt y0_ (ji22)) = 34 then (domesdayref03_C.j2 k2 y0_ x4_2 x5_2 true) else (domesdayref03_C.j2 k2 y0_ x4_2 x5_2 ((bt y0_ (ji22)) == 92))) else (none)) = some (r1, r2) := by first | (rw [hji22] at H; exact H) | (simp only [hji22] at H ⊢; exact H)
              (try rw [hji22] at c21b0)
              have hji22w : (IntKind.i64.wrap (x5_2 + 1)) = ji22 := (i64_w _).trans hji22
              by_cases c23 : 0 ≤ (ji22)
              ·rw [if_pos c23] at H
               have c23b0 : decide (0 ≤ (ji22)) = true := decide_eq_true c23
               clear c23
               by_cases c25 : (bt y0_ (ji22)) = 34
               ·rw [if_pos c25] at H
                have c25b0 : ((bt y0_ (ji22)) == 34) = true := beq_iff_eq.mpr c25
                have c25b1 : ((bt y0_ (ji22)) != 34) = false := bne_eq_false_iff_eq.mpr c25
                clear c25
                have H' := Aside0.mk H
                clear H
                have p24 : 0 ≤ ((ji22) : Int) := of_decide_eq_true (by first | (with_reducible assumption) | assumption)
                have q24 : (ji22) < (y0_.size : Int) := of_decide_eq_true (by first | (with_reducible assumption) | assumption)
                have hx24 := bt_at y0_ (ji22)
                replace p24 := eq_true p24
                replace q24 := eq_true q24
                go_wp2
                go_meet
                case rel => exact ⟨_, (true), (by first | rfl | (simp; done) | (simp [*]; done)), H', ⟨by have := HJ1.out; have := HK2.out; first | omega | exact Nat.le_refl _⟩, ⟨by (with_reducible repeat (first | apply Kd.R_alloc | apply Kd.R_drewN | apply Kd.R_drew)); exact HO_4.out⟩, ⟨by repeat (first | (with_reducible first | exact HB.out | apply below_alloc | apply pw_below_drewN | apply below_drew1) | exact HB.out)⟩⟩
               ·rw [if_neg c25] at H
                have c25b0 : ((bt y0_ (ji22)) == 34) = false := beq_eq_false_iff_ne.mpr c25
                have c25b1 : ((bt y0_ (ji22)) != 34) = true := bne_iff_ne.mpr c25
                have H' := Aside0.mk H
                clear H
                have p24 : 0 ≤ ((ji22) : Int) := of_decide_eq_true (by first | (with_reducible assumption) | assumption)
                have q24 : (ji22) < (y0_.size : Int) := of_decide_eq_true (by first | (with_reducible assumption) | assumption)
                have hx24 := bt_at y0_ (ji22)
                replace p24 := eq_true p24
                replace q24 := eq_true q24
                have p26 : 0 ≤ ((ji22) : Int) := of_decide_eq_true (by first | (with_reducible assumption) | assumption)
                have q26 : (ji22) < (y0_.size : Int) := of_decide_eq_true (by first | (with_reducible assumption) | assumption)
                have hx26 := bt_at y0_ (ji22)
                replace p26 := eq_true p26
                replace q26 := eq_true q26
                go_wp2
                go_meet
                case rel => exact ⟨_, (((bt y0_ (ji22)) == 92)), (by first | rfl | (simp; done) | (simp only [← hji22] <;> (first | rfl | simp)) | (simp [*]; done)), H', ⟨by have := HJ1.out; have := HK2.out; first | omega | exact Nat.le_refl _⟩, ⟨by (with_reducible repeat (first | apply Kd.R_alloc | apply Kd.R_drewN | apply Kd.R_drew)); exact HO_4.out⟩, ⟨by repeat (first | (with_reducible first | exact HB.out | apply below_alloc | apply pw_below_drewN | apply below_drew1) | exact HB.out)⟩⟩
              ·rw [if_neg c23] at H
               exact absurd H (by simp)
             ·rw [if_neg c21] at H
              have c21b0 : decide ((wrap64 (x5_2 + 1)) < (y0_.size : Int)) = false := decide_eq_false c21
              clear c21
              (first | rw [c21b0] | (simp only [i64_w, i32_w]; rw [c21b0]) | skip)
              have H' := Aside0.mk H
              clear H
              go_wp2
              go_meet
              case rel => exact ⟨_, (false), (by first | rfl | (simp; done) | (simp [*]; done)), H', ⟨by have := HJ1.out; have := HK2.out; first | omega | exact Nat.le_refl _⟩, ⟨by (with_reducible repeat (first | apply Kd.R_alloc | apply Kd.R_drewN | apply Kd.R_drew)); exact HO_4.out⟩, ⟨by repeat (first | (with_reducible first | exact HB.out | apply below_alloc | apply pw_below_drewN | apply below_drew1) | exact HB.out)⟩⟩
            case rest =>
             clear HC20
             (try clear c1); (try clear p1); (try clear q1); (try clear hx1); (try clear c2); (try clear p2); (try clear q2); (try clear hx2); (try clear c3); (try clear c3b0); (try clear c3b1); (try clear c4); (try clear c4b0); (try clear c4b1); (try clear p5); (try clear q5); (try clear hx5); (try clear qi5); (try clear c6); (try clear c6b0); (try clear c6b1); (try clear p6); (try clear c8); (try clear c8b0); (try clear c9); (try clear c9b0); (try clear p10); (try clear q10); (try clear hx10); (try clear c11); (try clear c12); (try clear c12b0); (try clear c12b1); (try clear c13); (try clear c13b0); (try clear c13b1); (try clear c14); (try clear c14b0); (try clear c15); (try clear c15b0); (try clear p16); (try clear q16); (try clear hx16); (try clear c17); (try clear c17b0); (try clear c17b1); (try clear p18); (try clear q18); (try clear hx18); (try clear c19); (try clear c19b0); (try clear c19b1); (try clear c21); (try clear c21b0); (try clear c23); (try clear c23b0); (try clear p24); (try clear q24); (try clear hx24); (try clear c25); (try clear c25b0); (try clear c25b1); (try clear p26); (try clear q26); (try clear hx26); (try clear p1); (try clear p10); (try clear p16); (try clear p18); (try clear p2); (try clear p24); (try clear p26); (try clear p5); (try clear p6); (try clear q1); (try clear q10); (try clear q16); (try clear q18); (try clear q24); (try clear q26); (try clear q5)
             obtain ⟨kq, x67_19, rfl, HA, HJ19, HO_4, HB⟩ := hcut
             cases kq with
             | zero => exact absurd HA.out (by simp [domesdayref03_C.j2])
             | succ kj19 =>
              have H := HA.out
              clear HA
              simp only [domesdayref03_C.j2] at H
              by_cases c27 : x67_19 = true
              ·subst c27
               have H1 : (if 0 ≤ (wrap64 (x5_2 + 1)) then (if (wrap64 (x5_2 + 1)) < (y0_.size : Int) then (if x4_2.length < 140737488355328 then (domesdayref03_C.l0 kj19 y0_ (x4_2 ++ [bt y0_ (wrap64 (x5_2 + 1))]) (wrap64 ((wrap64 (x5_2 + 1)) + 1))) else (none)) else (none)) else (none)) = some (r1, r2) := by rw [if_pos rfl] at H; exact H
               clear H
               have H := H1
               clear H1
               obtain ⟨ji28, hji28⟩ : ∃ j_ : Int, (wrap64 (x5_2 + 1)) = j_ := ⟨_, rfl⟩
               replace H : (if 0 ≤ (ji28) then (if (ji28) < (y0_.size : Int) then (if x4_2.length < 140737488355328 then (domesdayref03_C.l0 kj19 y0_ (x4_2 ++ [bt y0_ (ji28)]) (wrap64 ((ji28) + 1))) else (none)) else (none)) else (none)) = some (r1, r2) := by first | (rw [hji28] at H; exact H) | (simp only [hji28] at H ⊢; exact H)
               have hji28w : (IntKind.i64.wrap (x5_2 + 1)) = ji28 := (i64_w _).trans hji28
               by_cases c29 : 0 ≤ (ji28)
               ·rw [if_pos c29] at H
                have c29b0 : decide (0 ≤ (ji28)) = true := decide_eq_true c29
                clear c29
                by_cases c30 : (ji28) < (y0_.size : Int)
                ·rw [if_pos c30] at H
                 have c30b0 : decide ((ji28) < (y0_.size : Int)) = true := decide_eq_true c30
                 clear c30
                 by_cases c32 : x4_2.length < 140737488355328
                 ·rw [if_pos c32] at H
                  have LMc32 := Aside0.mk c32
                  clear c32
                  obtain ⟨y184, hy184⟩ : ∃ y_ : List Int, y_ = (x4_2 ++ [bt y0_ (ji28)]) := ⟨_, rfl⟩
                  replace H : (domesdayref03_C.l0 kj19 y0_ y184 (wrap64 ((ji28) + 1))) = some (r1, r2) := by first | (rw [hy184]; with_reducible exact H) | (have H2_ := (Option.bind_some _ _).symm.trans H; rw [hy184]; with_reducible exact H2_) | (have H2_ := (Option.bind_some _ _).symm.trans H; with_reducible exact H2_) | with_reducible exact H | (rw [hy184]; exact H) | exact H
                  have Ny184 := Aside0.mk hy184
                  clear hy184
                  have H' := Aside0.mk H
                  clear H
                  have p31 : 0 ≤ ((ji28) : Int) := of_decide_eq_true (by first | (with_reducible assumption) | assumption)
                  have q31 : (ji28) < (y0_.size : Int) := of_decide_eq_true (by first | (with_reducible assumption) | assumption)
                  have hx31 := bt_at y0_ (ji28)
                  replace p31 := eq_true p31
                  replace q31 := eq_true q31
                  go_wp2_with (first | ((with_reducible refine gate_builtin (b := .append) (xs := #[.tmp 68, .tmp 73]) rfl ?_); (try (refine gate_guard (by rfl) ?_; dsimp only)); at_builtin; refine Kd.R_append (Kd.int .u8) (w0 := w) w.heap.size rfl (.tmp 68) (.tmp 73) 42 5 (.int .u8 0) 1 rfl Tryd.underlying42 info5 rfl (by decide) (by omega) u4 x4_2 (bt y0_ (ji28)) [.int .u8 (bt y0_ (ji28))] (fun _ => True) (fun _ => False) rfl rfl ?aP (fun _ hk => hk.elim) ?aF ?aO ?aB ?aS ?aL ?_; (case aP => exact rfl); (case aB => exact (by repeat (first | (with_reducible first | exact HB.out | apply below_alloc | apply pw_below_drewN | apply below_drew1) | exact HB.out))); (case aF => exact (fun _ _ => trivial)); (case aO => exact (by (with_reducible repeat (first | apply Kd.R_alloc | apply Kd.R_drewN | apply Kd.R_drew)); exact HO_4.out)); (case aS => exact (below_size (by repeat (first | (with_reducible first | exact HB.out | apply below_alloc | apply pw_below_drewN | apply below_drew1) | exact HB.out)))); (case aL => have := LMc32.out; omega); intro v185 w33 ho hb hg hat; rw [← Ny184.out] at ho; have n0_ := Aside0.mk (hb); have n1_ := Aside0.mk (ho); clear HB; clear HO_4; have HB := n0_; have HO186 := n1_; clear n0_ n1_; clear ho hb hg hat))
                  go_roundg kj19
                  case measure => have := HJ1.out; have := HK2.out; have := HJ19.out; omega
                  case rel => exact ⟨(y184), (wrap64 ((ji28) + 1)), (by first | rfl | (simp; done) | (simp only [← hji28] <;> (first | rfl | simp)) | (simp [*]; done)), H', ⟨by have := HJ1.out; have := HK2.out; have := HJ19.out; omega⟩, ⟨by (with_reducible repeat (first | apply Kd.R_alloc | apply Kd.R_drewN | apply Kd.R_drew)); exact HO186.out⟩, ⟨by repeat (first | (with_reducible first | exact HB.out | apply below_alloc | apply pw_below_drewN | apply below_drew1) | exact HB.out)⟩⟩
                 ·rw [if_neg c32] at H
                  exact absurd H (by simp)
                ·rw [if_neg c30] at H
                 exact absurd H (by simp)
               ·rw [if_neg c29] at H
                exact absurd H (by simp)
              ·replace c27 := Bool.eq_false_iff.mpr c27
               subst c27
               have H1 : ((domesdayref03_one.f kj19 y0_ (wrap64 (x5_2 + 1))).bind fun bt187 => (if bt187.2 = 0 then (some ((⟨#[]⟩ : ByteArray), false)) else (if x4_2.length < 140737488355328 then (domesdayref03_C.l0 kj19 y0_ (x4_2 ++ [bt187.1]) (wrap64 ((wrap64 (x5_2 + bt187.2)) + 1))) else (none)))) = some (r1, r2) := by rw [if_neg (show ¬ (false = true) by decide)] at H; exact H
               clear H
               have H := H1
               clear H1
               replace H := Option.bind_eq_some_iff.mp H
               obtain ⟨⟨t187, t188⟩, A340, H⟩ := H
               replace H : (if t188 = 0 then (some ((⟨#[]⟩ : ByteArray), false)) else (if x4_2.length < 140737488355328 then (domesdayref03_C.l0 kj19 y0_ (x4_2 ++ [t187]) (wrap64 ((wrap64 (x5_2 + t188)) + 1))) else (none))) = some (r1, r2) := H
               have A34 := Aside0.mk A340
               clear A340
               by_cases c35 : t188 = 0
               ·rw [if_pos c35] at H
                have c35b0 : (t188 == 0) = true := beq_iff_eq.mpr c35
                have c35b1 : (t188 != 0) = false := bne_eq_false_iff_eq.mpr c35
                clear c35
                simp only [Option.some.injEq, Prod.mk.injEq] at H
                obtain ⟨rfl, rfl⟩ := H
                go_wp2_with (first | ((with_reducible refine gate_callee (f := 29) rfl ?_); refine goesL_ (some 81) rfl rfl Tryd.func29 (by kernel_rfl) rfl #[.string y0_, .int .i64 (wrap64 (x5_2 + 1))] rfl (by (try simp only [List.map_toArray, List.map_cons, List.map_nil]); first | done | rfl | (simp only [List.length_drop, List.length_take]; rfl)) ?_; (with_reducible refine (domesdayref03_one.calls kj19 y0_ (wrap64 (x5_2 + 1)) t187 t188 _ A34.out).mono ?_); rintro e w' ⟨rfl, ⟨nd, rfl⟩⟩; refine ⟨_, rfl, ?_⟩))
                go_ret2
                exact ⟨by first | rfl | (simp [errW_none, errW_some] <;> rfl) | (simp [*, errW_none, errW_some] <;> rfl), by repeat (first | (with_reducible first | exact HB.out | apply below_alloc | apply pw_below_drewN | apply below_drew1) | exact HB.out)⟩
               ·rw [if_neg c35] at H
                have c35b0 : (t188 == 0) = false := beq_eq_false_iff_ne.mpr c35
                have c35b1 : (t188 != 0) = true := bne_iff_ne.mpr c35
                by_cases c36 : x4_2.length < 140737488355328
                ·rw [if_pos c36] at H
                 have LMc36 := Aside0.mk c36
                 clear c36
                 obtain ⟨y189, hy189⟩ : ∃ y_ : List Int, y_ = (x4_2 ++ [t187]) := ⟨_, rfl⟩
                 replace H : (domesdayref03_C.l0 kj19 y0_ y189 (wrap64 ((wrap64 (x5_2 + t188)) + 1))) = some (r1, r2) := by first | (rw [hy189]; with_reducible exact H) | (have H2_ := (Option.bind_some _ _).symm.trans H; rw [hy189]; with_reducible exact H2_) | (have H2_ := (Option.bind_some _ _).symm.trans H; with_reducible exact H2_) | with_reducible exact H | (rw [hy189]; exact H) | exact H
                 have Ny189 := Aside0.mk hy189
                 clear hy189
                 have H' := Aside0.mk H
                 clear H
                 go_wp2_with (first | ((with_reducible refine gate_callee (f := 29) rfl ?_); refine goesL_ (some 81) rfl rfl Tryd.func29 (by kernel_rfl) rfl #[.string y0_, .int .i64 (wrap64 (x5_2 + 1))] rfl (by (try simp only [List.map_toArray, List.map_cons, List.map_nil]); first | done | rfl | (simp only [List.length_drop, List.length_take]; rfl)) ?_; (with_reducible refine (domesdayref03_one.calls kj19 y0_ (wrap64 (x5_2 + 1)) t187 t188 _ A34.out).mono ?_); rintro e w' ⟨rfl, ⟨nd, rfl⟩⟩; refine ⟨_, rfl, ?_⟩) | ((with_reducible refine gate_builtin (b := .append) (xs := #[.tmp 86, .tmp 88]) rfl ?_); (try (refine gate_guard (by rfl) ?_; dsimp only)); at_builtin; refine Kd.R_append (Kd.int .u8) (w0 := w) w.heap.size rfl (.tmp 86) (.tmp 88) 42 5 (.int .u8 0) 1 rfl Tryd.underlying42 info5 rfl (by decide) (by omega) u4 x4_2 t187 [.int .u8 t187] (fun _ => True) (fun _ => False) rfl rfl ?aP (fun _ hk => hk.elim) ?aF ?aO ?aB ?aS ?aL ?_; (case aP => exact rfl); (case aB => exact (by repeat (first | (with_reducible first | exact HB.out | apply below_alloc | apply pw_below_drewN | apply below_drew1) | exact HB.out))); (case aF => exact (fun _ _ => trivial)); (case aO => exact (by (with_reducible repeat (first | apply Kd.R_alloc | apply Kd.R_drewN | apply Kd.R_drew)); exact HO_4.out)); (case aS => exact (below_size (by repeat (first | (with_reducible first | exact HB.out | apply below_alloc | apply pw_below_drewN | apply below_drew1) | exact HB.out)))); (case aL => have := LMc36.out; omega); intro v190 w37 ho hb hg hat; rw [← Ny189.out] at ho; have n0_ := Aside0.mk (hb); have n1_ := Aside0.mk (ho); clear HB; clear HO_4; have HB := n0_; have HO191 := n1_; clear n0_ n1_; clear ho hb hg hat))
                 go_roundg kj19
                 case measure => have := HJ1.out; have := HK2.out; have := HJ19.out; omega
                 case rel => exact ⟨(y189), (wrap64 ((wrap64 (x5_2 + t188)) + 1)), (by first | rfl | (simp; done) | (simp [*]; done)), H', ⟨by have := HJ1.out; have := HK2.out; have := HJ19.out; omega⟩, ⟨by (with_reducible repeat (first | apply Kd.R_alloc | apply Kd.R_drewN | apply Kd.R_drew)); exact HO191.out⟩, ⟨by repeat (first | (with_reducible first | exact HB.out | apply below_alloc | apply pw_below_drewN | apply below_drew1) | exact HB.out)⟩⟩
                ·rw [if_neg c36] at H
                 exact absurd H (by simp)
           ·rw [if_neg c19] at H
            have c19b0 : ((bt y0_ x5_2) == 92) = false := beq_eq_false_iff_ne.mpr c19
            have c19b1 : ((bt y0_ x5_2) != 92) = true := bne_iff_ne.mpr c19
            by_cases c39 : x4_2.length < 140737488355328
            ·rw [if_pos c39] at H
             have LMc39 := Aside0.mk c39
             clear c39
             obtain ⟨y181, hy181⟩ : ∃ y_ : List Int, y_ = (x4_2 ++ [bt y0_ x5_2]) := ⟨_, rfl⟩
             replace H : (domesdayref03_C.l0 k2 y0_ y181 (wrap64 (x5_2 + 1))) = some (r1, r2) := by first | (rw [hy181]; with_reducible exact H) | (have H2_ := (Option.bind_some _ _).symm.trans H; rw [hy181]; with_reducible exact H2_) | (have H2_ := (Option.bind_some _ _).symm.trans H; with_reducible exact H2_) | with_reducible exact H | (rw [hy181]; exact H) | exact H
             have Ny181 := Aside0.mk hy181
             clear hy181
             have H' := Aside0.mk H
             clear H
             have p16 : 0 ≤ (x5_2 : Int) := of_decide_eq_true (by first | (with_reducible assumption) | assumption)
             have q16 : x5_2 < (y0_.size : Int) := of_decide_eq_true (by first | (with_reducible assumption) | assumption)
             have hx16 := bt_at y0_ x5_2
             replace p16 := eq_true p16
             replace q16 := eq_true q16
             have p18 : 0 ≤ (x5_2 : Int) := of_decide_eq_true (by first | (with_reducible assumption) | assumption)
             have q18 : x5_2 < (y0_.size : Int) := of_decide_eq_true (by first | (with_reducible assumption) | assumption)
             have hx18 := bt_at y0_ x5_2
             replace p18 := eq_true p18
             replace q18 := eq_true q18
             have p38 : 0 ≤ (x5_2 : Int) := of_decide_eq_true (by first | (with_reducible assumption) | assumption)
             have q38 : x5_2 < (y0_.size : Int) := of_decide_eq_true (by first | (with_reducible assumption) | assumption)
             have hx38 := bt_at y0_ x5_2
             replace p38 := eq_true p38
             replace q38 := eq_true q38
             go_wp2_with (first | ((with_reducible refine gate_builtin (b := .append) (xs := #[.tmp 43, .tmp 47]) rfl ?_); (try (refine gate_guard (by rfl) ?_; dsimp only)); at_builtin; refine Kd.R_append (Kd.int .u8) (w0 := w) w.heap.size rfl (.tmp 43) (.tmp 47) 42 5 (.int .u8 0) 1 rfl Tryd.underlying42 info5 rfl (by decide) (by omega) u4 x4_2 (bt y0_ x5_2) [.int .u8 (bt y0_ x5_2)] (fun _ => True) (fun _ => False) rfl rfl ?aP (fun _ hk => hk.elim) ?aF ?aO ?aB ?aS ?aL ?_; (case aP => exact rfl); (case aB => exact (by repeat (first | (with_reducible first | exact HB.out | apply below_alloc | apply pw_below_drewN | apply below_drew1) | exact HB.out))); (case aF => exact (fun _ _ => trivial)); (case aO => exact (by (with_reducible repeat (first | apply Kd.R_alloc | apply Kd.R_drewN | apply Kd.R_drew)); exact HO_4.out)); (case aS => exact (below_size (by repeat (first | (with_reducible first | exact HB.out | apply below_alloc | apply pw_below_drewN | apply below_drew1) | exact HB.out)))); (case aL => have := LMc39.out; omega); intro v182 w40 ho hb hg hat; rw [← Ny181.out] at ho; have n0_ := Aside0.mk (hb); have n1_ := Aside0.mk (ho); clear HB; clear HO_4; have HB := n0_; have HO183 := n1_; clear n0_ n1_; clear ho hb hg hat))
             go_roundg k2
             case measure => have := HJ1.out; have := HK2.out; omega
             case rel => exact ⟨(y181), (wrap64 (x5_2 + 1)), (by first | rfl | (simp; done) | (simp [*]; done)), H', ⟨by have := HJ1.out; have := HK2.out; omega⟩, ⟨by (with_reducible repeat (first | apply Kd.R_alloc | apply Kd.R_drewN | apply Kd.R_drew)); exact HO183.out⟩, ⟨by repeat (first | (with_reducible first | exact HB.out | apply below_alloc | apply pw_below_drewN | apply below_drew1) | exact HB.out)⟩⟩
            ·rw [if_neg c39] at H
             exact absurd H (by simp)
         ·rw [if_neg c15] at H
          exact absurd H (by simp)
        ·rw [if_neg c14] at H
         have c14b0 : decide (x5_2 < (y0_.size : Int)) = false := decide_eq_false c14
         clear c14
         simp only [Option.some.injEq, Prod.mk.injEq] at H
         obtain ⟨rfl, rfl⟩ := H
         have hcv41 := own_string (P := Tryd.prog) Tryd.underlying42 Tryd.underlying5 Tryd.underlying9 (Kd.own_of_R HO_4.out)
         go_wp2
         go_ret2
         exact ⟨by first | rfl | (simp [errW_none, errW_some] <;> rfl) | (simp [*, errW_none, errW_some] <;> rfl), by repeat (first | (with_reducible first | exact HB.out | apply below_alloc | apply pw_below_drewN | apply below_drew1) | exact HB.out)⟩
     ·rw [if_neg c13] at H
      exact absurd H (by simp)
    ·rw [if_neg c12] at H
     exact absurd H (by simp)

-- NOT PRINTED: function 6 (domesdaylaw03_QuoteReads)
end Go.Proofs.YtkhbgfnbkdonlaaDoor.QQuo
