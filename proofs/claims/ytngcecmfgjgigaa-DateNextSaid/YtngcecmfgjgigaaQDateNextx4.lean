-- Made by a program of this session.
import Derived.Test.YtngcecmfgjgigaaQDateNextx0
import Derived.Test.YtngcecmfgjgigaaQDateNextx1
import Derived.Test.YtngcecmfgjgigaaQDateNextx2
import Derived.Test.YtngcecmfgjgigaaQDateNextx3
namespace Go.Proofs.Ytngcecmfgjgigaa.QDateNext
open Go.RowKit Go.Proofs.YtngcecmfgjgigaaW.PrintWords Go.Proofs.YtngcecmfgjgigaaW.PrintLast Go.Proofs.YtngcecmfgjgigaaW.PrintMore
attribute [local go_sem] max2_int min2_int max_two min_two max_three min_three max_four min_four   -- for this text's walks alone
set_option linter.unusedVariables false
set_option linter.unusedSimpArgs false

attribute [local go_sem high] eqA37
/-! ### domesdaylaw04_DateNext: function 7 -/
mutual
def domesdaylaw04_DateNext.j0 : Nat → Int → Int → Bool → Option (Bool)
  | 0, _, _, _ => none
  | k + 1, x0, x1, x12 => if x12 = true then ((domesdaylaw04_awake.f k).bind fun t128 => (some t128)) else ((date_Of.f k x0 x1).bind fun bt129 => ((date_Of.f k (wrap64 (x0 + 1)) x1).bind fun bt137 => (if bt129.2.2.2.2.2.1 < 59 then (some (bt129.1 == bt137.1 && (bt129.2.1 == bt137.2.1 && (bt129.2.2.1 == bt137.2.2.1 && (bt129.2.2.2.1 == bt137.2.2.2.1 && (bt129.2.2.2.2.1 == bt137.2.2.2.2.1 && ((wrap64 (bt129.2.2.2.2.2.1 + 1)) == bt137.2.2.2.2.2.1 && (bt129.2.2.2.2.2.2.1 == bt137.2.2.2.2.2.2.1 && (bt129.2.2.2.2.2.2.2 == bt137.2.2.2.2.2.2.2))))))))) else (if bt137.2.2.2.2.2.1 = 0 then (if bt129.2.2.2.2.1 < 59 then (if bt137.2.2.2.2.1 = (wrap64 (bt129.2.2.2.2.1 + 1)) then (if bt137.2.2.2.1 = bt129.2.2.2.1 then (if bt137.2.2.1 = bt129.2.2.1 then (if bt129.2.2.2.2.1 = 59 then (domesdaylaw04_DateNext.j1 k (bt137.2.2.2.2.1 != 0) bt129.1 bt129.2.1 bt129.2.2.1 bt129.2.2.2.1 bt129.2.2.2.2.1 bt129.2.2.2.2.2.1 bt129.2.2.2.2.2.2.1 bt129.2.2.2.2.2.2.2 bt137.1 bt137.2.1 bt137.2.2.1 bt137.2.2.2.1 bt137.2.2.2.2.1 bt137.2.2.2.2.2.1 bt137.2.2.2.2.2.2.1 bt137.2.2.2.2.2.2.2) else (domesdaylaw04_DateNext.j1 k false bt129.1 bt129.2.1 bt129.2.2.1 bt129.2.2.2.1 bt129.2.2.2.2.1 bt129.2.2.2.2.2.1 bt129.2.2.2.2.2.2.1 bt129.2.2.2.2.2.2.2 bt137.1 bt137.2.1 bt137.2.2.1 bt137.2.2.2.1 bt137.2.2.2.2.1 bt137.2.2.2.2.2.1 bt137.2.2.2.2.2.2.1 bt137.2.2.2.2.2.2.2)) else (domesdaylaw04_DateNext.j1 k true bt129.1 bt129.2.1 bt129.2.2.1 bt129.2.2.2.1 bt129.2.2.2.2.1 bt129.2.2.2.2.2.1 bt129.2.2.2.2.2.2.1 bt129.2.2.2.2.2.2.2 bt137.1 bt137.2.1 bt137.2.2.1 bt137.2.2.2.1 bt137.2.2.2.2.1 bt137.2.2.2.2.2.1 bt137.2.2.2.2.2.2.1 bt137.2.2.2.2.2.2.2)) else (domesdaylaw04_DateNext.j1 k true bt129.1 bt129.2.1 bt129.2.2.1 bt129.2.2.2.1 bt129.2.2.2.2.1 bt129.2.2.2.2.2.1 bt129.2.2.2.2.2.2.1 bt129.2.2.2.2.2.2.2 bt137.1 bt137.2.1 bt137.2.2.1 bt137.2.2.2.1 bt137.2.2.2.2.1 bt137.2.2.2.2.2.1 bt137.2.2.2.2.2.2.1 bt137.2.2.2.2.2.2.2)) else (domesdaylaw04_DateNext.j1 k true bt129.1 bt129.2.1 bt129.2.2.1 bt129.2.2.2.1 bt129.2.2.2.2.1 bt129.2.2.2.2.2.1 bt129.2.2.2.2.2.2.1 bt129.2.2.2.2.2.2.2 bt137.1 bt137.2.1 bt137.2.2.1 bt137.2.2.2.1 bt137.2.2.2.2.1 bt137.2.2.2.2.2.1 bt137.2.2.2.2.2.2.1 bt137.2.2.2.2.2.2.2)) else (if bt129.2.2.2.2.1 = 59 then (domesdaylaw04_DateNext.j1 k (bt137.2.2.2.2.1 != 0) bt129.1 bt129.2.1 bt129.2.2.1 bt129.2.2.2.1 bt129.2.2.2.2.1 bt129.2.2.2.2.2.1 bt129.2.2.2.2.2.2.1 bt129.2.2.2.2.2.2.2 bt137.1 bt137.2.1 bt137.2.2.1 bt137.2.2.2.1 bt137.2.2.2.2.1 bt137.2.2.2.2.2.1 bt137.2.2.2.2.2.2.1 bt137.2.2.2.2.2.2.2) else (domesdaylaw04_DateNext.j1 k false bt129.1 bt129.2.1 bt129.2.2.1 bt129.2.2.2.1 bt129.2.2.2.2.1 bt129.2.2.2.2.2.1 bt129.2.2.2.2.2.2.1 bt129.2.2.2.2.2.2.2 bt137.1 bt137.2.1 bt137.2.2.1 bt137.2.2.2.1 bt137.2.2.2.2.1 bt137.2.2.2.2.2.1 bt137.2.2.2.2.2.2.1 bt137.2.2.2.2.2.2.2))) else (domesdaylaw04_DateNext.j1 k true bt129.1 bt129.2.1 bt129.2.2.1 bt129.2.2.2.1 bt129.2.2.2.2.1 bt129.2.2.2.2.2.1 bt129.2.2.2.2.2.2.1 bt129.2.2.2.2.2.2.2 bt137.1 bt137.2.1 bt137.2.2.1 bt137.2.2.2.1 bt137.2.2.2.2.1 bt137.2.2.2.2.2.1 bt137.2.2.2.2.2.2.1 bt137.2.2.2.2.2.2.2)))))
def domesdaylaw04_DateNext.j1 : Nat → Bool → Int → Int → Int → Int → Int → Int → Int → Int → Int → Int → Int → Int → Int → Int → Int → Int → Option (Bool)
  | 0, _, _, _, _, _, _, _, _, _, _, _, _, _, _, _, _, _ => none
  | k + 1, x70, x146000, x146001, x146002, x146003, x146004, x146005, x146006, x146007, x147000, x147001, x147002, x147003, x147004, x147005, x147006, x147007 => if x70 = true then (none) else (if x146004 < 59 then (if x146000 = x147000 then (if x146007 = x147007 then (some (x146006 == x147006)) else (none)) else (none)) else (if x146003 < 23 then (if x146000 = x147000 then (if x146007 = x147007 then (some (x146006 == x147006)) else (none)) else (none)) else (if x147003 = 0 then (if x147006 = (Int.tmod (wrap64 (x146006 + 1)) 7) then (if x146001 = 12 then (if x146002 = 31 then (if x147000 = (wrap64 (x146000 + 1)) then (if x147001 = 1 then (if x147002 = 1 then (some (x147007 == 1)) else (none)) else (none)) else (none)) else ((date_Days.f k x146000 x146001).bind fun t147 => (if x146002 = t147 then (if x147000 = x146000 then (if x147001 = (wrap64 (x146001 + 1)) then (if x147002 = 1 then (some (x147007 == (wrap64 (x146007 + 1)))) else (none)) else (none)) else (none)) else (if x147000 = x146000 then (if x147001 = x146001 then (if x147002 = (wrap64 (x146002 + 1)) then (some (x147007 == (wrap64 (x146007 + 1)))) else (none)) else (none)) else (none))))) else ((date_Days.f k x146000 x146001).bind fun t148 => (if x146002 = t148 then (if x147000 = x146000 then (if x147001 = (wrap64 (x146001 + 1)) then (if x147002 = 1 then (some (x147007 == (wrap64 (x146007 + 1)))) else (none)) else (none)) else (none)) else (if x147000 = x146000 then (if x147001 = x146001 then (if x147002 = (wrap64 (x146002 + 1)) then (some (x147007 == (wrap64 (x146007 + 1)))) else (none)) else (none)) else (none))))) else (none)) else (none))))
end
def domesdaylaw04_DateNext.f (k : Nat) (a0 : Int) (a1 : Int) : Option (Bool) := (domesdaylaw04_awake.f k).bind fun t127 => (if t127 = true then (domesdaylaw04_DateNext.j0 k a0 a1 (a0 == 9223372036854775807)) else (domesdaylaw04_DateNext.j0 k a0 a1 true))
theorem domesdaylaw04_DateNext.mono_l : ∀ k, (∀ y0 y1 y2, LeO (domesdaylaw04_DateNext.j0 k y0 y1 y2) (domesdaylaw04_DateNext.j0 (k + 1) y0 y1 y2)) ∧ (∀ y0 y1 y2 y3 y4 y5 y6 y7 y8 y9 y10 y11 y12 y13 y14 y15 y16, LeO (domesdaylaw04_DateNext.j1 k y0 y1 y2 y3 y4 y5 y6 y7 y8 y9 y10 y11 y12 y13 y14 y15 y16) (domesdaylaw04_DateNext.j1 (k + 1) y0 y1 y2 y3 y4 y5 y6 y7 y8 y9 y10 y11 y12 y13 y14 y15 y16))
  | 0 => ⟨fun _ _ _ r h => by simp [domesdaylaw04_DateNext.j0] at h, fun _ _ _ _ _ _ _ _ _ _ _ _ _ _ _ _ _ r h => by simp [domesdaylaw04_DateNext.j1] at h⟩
  | k + 1 => by
    obtain ⟨ih0, ih1⟩ := domesdaylaw04_DateNext.mono_l k
    refine ⟨?_, ?_⟩
    · intro y0 y1 y2
      unfold domesdaylaw04_DateNext.j0
      repeat' first
      | (with_reducible exact ih0 _ _ _)
      | (with_reducible exact ih1 _ _ _ _ _ _ _ _ _ _ _ _ _ _ _ _ _)
      | (with_reducible exact date_Days.mono _ _ _)
      | (with_reducible exact date_Of.mono _ _ _)
      | (with_reducible exact domesdaylaw04_awake.mono _)
      | (with_reducible exact LeO.refl _)
      | (with_reducible exact LeO.none _)
      | (with_reducible refine LeO.ite ?_ ?_)
      | (with_reducible refine LeO.bind ?_ (fun _ => ?_))
      | exact ih0 _ _ _
      | exact ih1 _ _ _ _ _ _ _ _ _ _ _ _ _ _ _ _ _
      | exact date_Days.mono _ _ _
      | exact date_Of.mono _ _ _
      | exact domesdaylaw04_awake.mono _
      | exact LeO.none _
      | refine LeO.ite ?_ ?_
      | refine LeO.bind ?_ (fun _ => ?_)
    · intro y0 y1 y2 y3 y4 y5 y6 y7 y8 y9 y10 y11 y12 y13 y14 y15 y16
      unfold domesdaylaw04_DateNext.j1
      repeat' first
      | (with_reducible exact ih0 _ _ _)
      | (with_reducible exact ih1 _ _ _ _ _ _ _ _ _ _ _ _ _ _ _ _ _)
      | (with_reducible exact date_Days.mono _ _ _)
      | (with_reducible exact date_Of.mono _ _ _)
      | (with_reducible exact domesdaylaw04_awake.mono _)
      | (with_reducible exact LeO.refl _)
      | (with_reducible exact LeO.none _)
      | (with_reducible refine LeO.ite ?_ ?_)
      | (with_reducible refine LeO.bind ?_ (fun _ => ?_))
      | exact ih0 _ _ _
      | exact ih1 _ _ _ _ _ _ _ _ _ _ _ _ _ _ _ _ _
      | exact date_Days.mono _ _ _
      | exact date_Of.mono _ _ _
      | exact domesdaylaw04_awake.mono _
      | exact LeO.none _
      | refine LeO.ite ?_ ?_
      | refine LeO.bind ?_ (fun _ => ?_)
theorem domesdaylaw04_DateNext.mono : ∀ a0 a1 k, LeO (domesdaylaw04_DateNext.f k a0 a1) (domesdaylaw04_DateNext.f (k + 1) a0 a1) := by
  intro a0 a1 k
  obtain ⟨ih0, ih1⟩ := domesdaylaw04_DateNext.mono_l k
  unfold domesdaylaw04_DateNext.f
  repeat' first
      | (with_reducible exact ih0 _ _ _)
      | (with_reducible exact ih1 _ _ _ _ _ _ _ _ _ _ _ _ _ _ _ _ _)
      | (with_reducible exact date_Days.mono _ _ _)
      | (with_reducible exact date_Of.mono _ _ _)
      | (with_reducible exact domesdaylaw04_awake.mono _)
      | (with_reducible exact LeO.refl _)
      | (with_reducible exact LeO.none _)
      | (with_reducible refine LeO.ite ?_ ?_)
      | (with_reducible refine LeO.bind ?_ (fun _ => ?_))
      | exact ih0 _ _ _
      | exact ih1 _ _ _ _ _ _ _ _ _ _ _ _ _ _ _ _ _
      | exact date_Days.mono _ _ _
      | exact date_Of.mono _ _ _
      | exact domesdaylaw04_awake.mono _
      | exact LeO.none _
      | refine LeO.ite ?_ ?_
      | refine LeO.bind ?_ (fun _ => ?_)
set_option maxHeartbeats 8000000 in
set_option maxRecDepth 100000 in
theorem domesdaylaw04_DateNext.calls (k : Nat) (a0 : Int) (a1 : Int) (r : Bool) (w : World) (h : domesdaylaw04_DateNext.f k a0 a1 = some r) :
    Calls Try.prog 7 #[.int .i64 a0, .int .i64 a1] w fun e w' => e = .returned (.bool r) ∧ Below w.heap.size w w' := by
  have hu37 := Try.underlying37
  have HB := Aside0.mk (Below.refl w.heap.size w)
  have H : ((domesdaylaw04_awake.f k).bind fun t127 => (if t127 = true then (domesdaylaw04_DateNext.j0 k a0 a1 (a0 == 9223372036854775807)) else (domesdaylaw04_DateNext.j0 k a0 a1 true))) = some r := h
  clear h
  have HC3 := Aside0.mk H
  clear H
  go_enter Try.func7, Try.ntmps7
  go_upto_region 1 with (fail)
  repeat (go_quiet (fail); go_upto_region 1 with (fail))
  go_cut [12] (fun v12 wc => ∃ (kq : Nat) (x12_2 : Bool), v12 = .bool x12_2 ∧ Aside0 (domesdaylaw04_DateNext.j0 kq a0 a1 x12_2 = some r) ∧ Aside0 (kq ≤ k) ∧ Aside0 (Below w.heap.size w wc))
  case first =>
    have H := HC3.out
    clear HC3
    replace H := Option.bind_eq_some_iff.mp H
    obtain ⟨t127, A40, H⟩ := H
    replace H : (if t127 = true then (domesdaylaw04_DateNext.j0 k a0 a1 (a0 == 9223372036854775807)) else (domesdaylaw04_DateNext.j0 k a0 a1 true)) = some r := H
    have A4 := Aside0.mk A40
    clear A40
    by_cases c5 : t127 = true
    · subst c5
      have H1 : (domesdaylaw04_DateNext.j0 k a0 a1 (a0 == 9223372036854775807)) = some r := by rw [if_pos rfl] at H; exact H
      clear H
      have H := H1
      clear H1
      have H' := Aside0.mk H
      clear H
      go_wp2_with (first | (go_at_call 20; (with_reducible refine (domesdaylaw04_awake.calls k  true _ A4.out).mono ?_); rintro e w6 ⟨rfl, hb⟩; have n0_ := Aside0.mk (below_step (by repeat (first | (with_reducible first | exact HB.out | apply below_alloc | apply pw_below_drewN | apply below_drew1) | exact HB.out)) hb); clear HB; have HB := n0_; clear n0_; (try clear hb); (try clear hb2); (try clear hk); (try clear hi)))
      repeat (go_quiet (first | (go_at_call 20; (with_reducible refine (domesdaylaw04_awake.calls k  true _ A4.out).mono ?_); rintro e w6 ⟨rfl, hb⟩; have n0_ := Aside0.mk (below_step (by repeat (first | (with_reducible first | exact HB.out | apply below_alloc | apply pw_below_drewN | apply below_drew1) | exact HB.out)) hb); clear HB; have HB := n0_; clear n0_; (try clear hb); (try clear hb2); (try clear hk); (try clear hi))); try go_wp2_with (first | (go_at_call 20; (with_reducible refine (domesdaylaw04_awake.calls k  true _ A4.out).mono ?_); rintro e w6 ⟨rfl, hb⟩; have n0_ := Aside0.mk (below_step (by repeat (first | (with_reducible first | exact HB.out | apply below_alloc | apply pw_below_drewN | apply below_drew1) | exact HB.out)) hb); clear HB; have HB := n0_; clear n0_; (try clear hb); (try clear hb2); (try clear hk); (try clear hi))))
      go_meet
      case rel => exact ⟨_, ((a0 == 9223372036854775807)), (by first | rfl | (simp; done) | (simp [*]; done)), H', ⟨by first | omega | exact Nat.le_refl _⟩, ⟨by repeat (first | (with_reducible first | exact HB.out | apply below_alloc | apply pw_below_drewN | apply below_drew1) | exact HB.out)⟩⟩
    · replace c5 := Bool.eq_false_iff.mpr c5
      subst c5
      have H1 : (domesdaylaw04_DateNext.j0 k a0 a1 true) = some r := by rw [if_neg (show ¬ (false = true) by decide)] at H; exact H
      clear H
      have H := H1
      clear H1
      have H' := Aside0.mk H
      clear H
      go_wp2_with (first | (go_at_call 20; (with_reducible refine (domesdaylaw04_awake.calls k  false _ A4.out).mono ?_); rintro e w7 ⟨rfl, hb⟩; have n0_ := Aside0.mk (below_step (by repeat (first | (with_reducible first | exact HB.out | apply below_alloc | apply pw_below_drewN | apply below_drew1) | exact HB.out)) hb); clear HB; have HB := n0_; clear n0_; (try clear hb); (try clear hb2); (try clear hk); (try clear hi)))
      repeat (go_quiet (first | (go_at_call 20; (with_reducible refine (domesdaylaw04_awake.calls k  false _ A4.out).mono ?_); rintro e w7 ⟨rfl, hb⟩; have n0_ := Aside0.mk (below_step (by repeat (first | (with_reducible first | exact HB.out | apply below_alloc | apply pw_below_drewN | apply below_drew1) | exact HB.out)) hb); clear HB; have HB := n0_; clear n0_; (try clear hb); (try clear hb2); (try clear hk); (try clear hi))); try go_wp2_with (first | (go_at_call 20; (with_reducible refine (domesdaylaw04_awake.calls k  false _ A4.out).mono ?_); rintro e w7 ⟨rfl, hb⟩; have n0_ := Aside0.mk (below_step (by repeat (first | (with_reducible first | exact HB.out | apply below_alloc | apply pw_below_drewN | apply below_drew1) | exact HB.out)) hb); clear HB; have HB := n0_; clear n0_; (try clear hb); (try clear hb2); (try clear hk); (try clear hi))))
      go_meet
      case rel => exact ⟨_, (true), (by first | rfl | (simp; done) | (simp [*]; done)), H', ⟨by first | omega | exact Nat.le_refl _⟩, ⟨by repeat (first | (with_reducible first | exact HB.out | apply below_alloc | apply pw_below_drewN | apply below_drew1) | exact HB.out)⟩⟩
  case rest =>
    clear HC3
    try clear p2
    try clear c5
    try clear c7
    obtain ⟨kq, x12_2, rfl, HA, HJ2, HB⟩ := hcut
    cases kq with
    | zero => exact absurd HA.out (by simp [domesdaylaw04_DateNext.j0])
    | succ kj2 =>
      have H := HA.out
      clear HA
      simp only [domesdaylaw04_DateNext.j0] at H
      by_cases c8 : x12_2 = true
      · subst c8
        have H1 : ((domesdaylaw04_awake.f kj2).bind fun t128 => (some t128)) = some r := by rw [if_pos rfl] at H; exact H
        clear H
        have H := H1
        clear H1
        replace H := Option.bind_eq_some_iff.mp H
        obtain ⟨t128, A90, H⟩ := H
        replace H : (some t128) = some r := H
        have A9 := Aside0.mk A90
        clear A90
        obtain rfl := Option.some.inj H
        go_wp2_with (first | (go_at_call 20; (with_reducible refine (domesdaylaw04_awake.calls kj2  t128 _ A9.out).mono ?_); rintro e w10 ⟨rfl, hb⟩; have n0_ := Aside0.mk (below_step (by repeat (first | (with_reducible first | exact HB.out | apply below_alloc | apply pw_below_drewN | apply below_drew1) | exact HB.out)) hb); clear HB; have HB := n0_; clear n0_; (try clear hb); (try clear hb2); (try clear hk); (try clear hi)))
        repeat (go_quiet (first | (go_at_call 20; (with_reducible refine (domesdaylaw04_awake.calls kj2  t128 _ A9.out).mono ?_); rintro e w10 ⟨rfl, hb⟩; have n0_ := Aside0.mk (below_step (by repeat (first | (with_reducible first | exact HB.out | apply below_alloc | apply pw_below_drewN | apply below_drew1) | exact HB.out)) hb); clear HB; have HB := n0_; clear n0_; (try clear hb); (try clear hb2); (try clear hk); (try clear hi))); try go_wp2_with (first | (go_at_call 20; (with_reducible refine (domesdaylaw04_awake.calls kj2  t128 _ A9.out).mono ?_); rintro e w10 ⟨rfl, hb⟩; have n0_ := Aside0.mk (below_step (by repeat (first | (with_reducible first | exact HB.out | apply below_alloc | apply pw_below_drewN | apply below_drew1) | exact HB.out)) hb); clear HB; have HB := n0_; clear n0_; (try clear hb); (try clear hb2); (try clear hk); (try clear hi))))
        go_ret
        exact ⟨by first | rfl | (simp [errW_none, errW_some] <;> rfl) | (simp [*, errW_none, errW_some] <;> rfl), by repeat (first | (with_reducible first | exact HB.out | apply below_alloc | apply pw_below_drewN | apply below_drew1) | exact HB.out)⟩
      · replace c8 := Bool.eq_false_iff.mpr c8
        subst c8
        have H1 : ((date_Of.f kj2 a0 a1).bind fun bt129 => ((date_Of.f kj2 (wrap64 (a0 + 1)) a1).bind fun bt137 => (if bt129.2.2.2.2.2.1 < 59 then (some (bt129.1 == bt137.1 && (bt129.2.1 == bt137.2.1 && (bt129.2.2.1 == bt137.2.2.1 && (bt129.2.2.2.1 == bt137.2.2.2.1 && (bt129.2.2.2.2.1 == bt137.2.2.2.2.1 && ((wrap64 (bt129.2.2.2.2.2.1 + 1)) == bt137.2.2.2.2.2.1 && (bt129.2.2.2.2.2.2.1 == bt137.2.2.2.2.2.2.1 && (bt129.2.2.2.2.2.2.2 == bt137.2.2.2.2.2.2.2))))))))) else (if bt137.2.2.2.2.2.1 = 0 then (if bt129.2.2.2.2.1 < 59 then (if bt137.2.2.2.2.1 = (wrap64 (bt129.2.2.2.2.1 + 1)) then (if bt137.2.2.2.1 = bt129.2.2.2.1 then (if bt137.2.2.1 = bt129.2.2.1 then (if bt129.2.2.2.2.1 = 59 then (domesdaylaw04_DateNext.j1 kj2 (bt137.2.2.2.2.1 != 0) bt129.1 bt129.2.1 bt129.2.2.1 bt129.2.2.2.1 bt129.2.2.2.2.1 bt129.2.2.2.2.2.1 bt129.2.2.2.2.2.2.1 bt129.2.2.2.2.2.2.2 bt137.1 bt137.2.1 bt137.2.2.1 bt137.2.2.2.1 bt137.2.2.2.2.1 bt137.2.2.2.2.2.1 bt137.2.2.2.2.2.2.1 bt137.2.2.2.2.2.2.2) else (domesdaylaw04_DateNext.j1 kj2 false bt129.1 bt129.2.1 bt129.2.2.1 bt129.2.2.2.1 bt129.2.2.2.2.1 bt129.2.2.2.2.2.1 bt129.2.2.2.2.2.2.1 bt129.2.2.2.2.2.2.2 bt137.1 bt137.2.1 bt137.2.2.1 bt137.2.2.2.1 bt137.2.2.2.2.1 bt137.2.2.2.2.2.1 bt137.2.2.2.2.2.2.1 bt137.2.2.2.2.2.2.2)) else (domesdaylaw04_DateNext.j1 kj2 true bt129.1 bt129.2.1 bt129.2.2.1 bt129.2.2.2.1 bt129.2.2.2.2.1 bt129.2.2.2.2.2.1 bt129.2.2.2.2.2.2.1 bt129.2.2.2.2.2.2.2 bt137.1 bt137.2.1 bt137.2.2.1 bt137.2.2.2.1 bt137.2.2.2.2.1 bt137.2.2.2.2.2.1 bt137.2.2.2.2.2.2.1 bt137.2.2.2.2.2.2.2)) else (domesdaylaw04_DateNext.j1 kj2 true bt129.1 bt129.2.1 bt129.2.2.1 bt129.2.2.2.1 bt129.2.2.2.2.1 bt129.2.2.2.2.2.1 bt129.2.2.2.2.2.2.1 bt129.2.2.2.2.2.2.2 bt137.1 bt137.2.1 bt137.2.2.1 bt137.2.2.2.1 bt137.2.2.2.2.1 bt137.2.2.2.2.2.1 bt137.2.2.2.2.2.2.1 bt137.2.2.2.2.2.2.2)) else (domesdaylaw04_DateNext.j1 kj2 true bt129.1 bt129.2.1 bt129.2.2.1 bt129.2.2.2.1 bt129.2.2.2.2.1 bt129.2.2.2.2.2.1 bt129.2.2.2.2.2.2.1 bt129.2.2.2.2.2.2.2 bt137.1 bt137.2.1 bt137.2.2.1 bt137.2.2.2.1 bt137.2.2.2.2.1 bt137.2.2.2.2.2.1 bt137.2.2.2.2.2.2.1 bt137.2.2.2.2.2.2.2)) else (if bt129.2.2.2.2.1 = 59 then (domesdaylaw04_DateNext.j1 kj2 (bt137.2.2.2.2.1 != 0) bt129.1 bt129.2.1 bt129.2.2.1 bt129.2.2.2.1 bt129.2.2.2.2.1 bt129.2.2.2.2.2.1 bt129.2.2.2.2.2.2.1 bt129.2.2.2.2.2.2.2 bt137.1 bt137.2.1 bt137.2.2.1 bt137.2.2.2.1 bt137.2.2.2.2.1 bt137.2.2.2.2.2.1 bt137.2.2.2.2.2.2.1 bt137.2.2.2.2.2.2.2) else (domesdaylaw04_DateNext.j1 kj2 false bt129.1 bt129.2.1 bt129.2.2.1 bt129.2.2.2.1 bt129.2.2.2.2.1 bt129.2.2.2.2.2.1 bt129.2.2.2.2.2.2.1 bt129.2.2.2.2.2.2.2 bt137.1 bt137.2.1 bt137.2.2.1 bt137.2.2.2.1 bt137.2.2.2.2.1 bt137.2.2.2.2.2.1 bt137.2.2.2.2.2.2.1 bt137.2.2.2.2.2.2.2))) else (domesdaylaw04_DateNext.j1 kj2 true bt129.1 bt129.2.1 bt129.2.2.1 bt129.2.2.2.1 bt129.2.2.2.2.1 bt129.2.2.2.2.2.1 bt129.2.2.2.2.2.2.1 bt129.2.2.2.2.2.2.2 bt137.1 bt137.2.1 bt137.2.2.1 bt137.2.2.2.1 bt137.2.2.2.2.1 bt137.2.2.2.2.2.1 bt137.2.2.2.2.2.2.1 bt137.2.2.2.2.2.2.2))))) = some r := by rw [if_neg (show ¬ (false = true) by decide)] at H; exact H
        clear H
        have H := H1
        clear H1
        replace H := Option.bind_eq_some_iff.mp H
        obtain ⟨⟨t129, t130, t131, t132, t133, t134, t135, t136⟩, A110, H⟩ := H
        replace H : ((date_Of.f kj2 (wrap64 (a0 + 1)) a1).bind fun bt137 => (if t134 < 59 then (some (t129 == bt137.1 && (t130 == bt137.2.1 && (t131 == bt137.2.2.1 && (t132 == bt137.2.2.2.1 && (t133 == bt137.2.2.2.2.1 && ((wrap64 (t134 + 1)) == bt137.2.2.2.2.2.1 && (t135 == bt137.2.2.2.2.2.2.1 && (t136 == bt137.2.2.2.2.2.2.2))))))))) else (if bt137.2.2.2.2.2.1 = 0 then (if t133 < 59 then (if bt137.2.2.2.2.1 = (wrap64 (t133 + 1)) then (if bt137.2.2.2.1 = t132 then (if bt137.2.2.1 = t131 then (if t133 = 59 then (domesdaylaw04_DateNext.j1 kj2 (bt137.2.2.2.2.1 != 0) t129 t130 t131 t132 t133 t134 t135 t136 bt137.1 bt137.2.1 bt137.2.2.1 bt137.2.2.2.1 bt137.2.2.2.2.1 bt137.2.2.2.2.2.1 bt137.2.2.2.2.2.2.1 bt137.2.2.2.2.2.2.2) else (domesdaylaw04_DateNext.j1 kj2 false t129 t130 t131 t132 t133 t134 t135 t136 bt137.1 bt137.2.1 bt137.2.2.1 bt137.2.2.2.1 bt137.2.2.2.2.1 bt137.2.2.2.2.2.1 bt137.2.2.2.2.2.2.1 bt137.2.2.2.2.2.2.2)) else (domesdaylaw04_DateNext.j1 kj2 true t129 t130 t131 t132 t133 t134 t135 t136 bt137.1 bt137.2.1 bt137.2.2.1 bt137.2.2.2.1 bt137.2.2.2.2.1 bt137.2.2.2.2.2.1 bt137.2.2.2.2.2.2.1 bt137.2.2.2.2.2.2.2)) else (domesdaylaw04_DateNext.j1 kj2 true t129 t130 t131 t132 t133 t134 t135 t136 bt137.1 bt137.2.1 bt137.2.2.1 bt137.2.2.2.1 bt137.2.2.2.2.1 bt137.2.2.2.2.2.1 bt137.2.2.2.2.2.2.1 bt137.2.2.2.2.2.2.2)) else (domesdaylaw04_DateNext.j1 kj2 true t129 t130 t131 t132 t133 t134 t135 t136 bt137.1 bt137.2.1 bt137.2.2.1 bt137.2.2.2.1 bt137.2.2.2.2.1 bt137.2.2.2.2.2.1 bt137.2.2.2.2.2.2.1 bt137.2.2.2.2.2.2.2)) else (if t133 = 59 then (domesdaylaw04_DateNext.j1 kj2 (bt137.2.2.2.2.1 != 0) t129 t130 t131 t132 t133 t134 t135 t136 bt137.1 bt137.2.1 bt137.2.2.1 bt137.2.2.2.1 bt137.2.2.2.2.1 bt137.2.2.2.2.2.1 bt137.2.2.2.2.2.2.1 bt137.2.2.2.2.2.2.2) else (domesdaylaw04_DateNext.j1 kj2 false t129 t130 t131 t132 t133 t134 t135 t136 bt137.1 bt137.2.1 bt137.2.2.1 bt137.2.2.2.1 bt137.2.2.2.2.1 bt137.2.2.2.2.2.1 bt137.2.2.2.2.2.2.1 bt137.2.2.2.2.2.2.2))) else (domesdaylaw04_DateNext.j1 kj2 true t129 t130 t131 t132 t133 t134 t135 t136 bt137.1 bt137.2.1 bt137.2.2.1 bt137.2.2.2.1 bt137.2.2.2.2.1 bt137.2.2.2.2.2.1 bt137.2.2.2.2.2.2.1 bt137.2.2.2.2.2.2.2)))) = some r := H
        have A11 := Aside0.mk A110
        clear A110
        replace H := Option.bind_eq_some_iff.mp H
        obtain ⟨⟨t137, t138, t139, t140, t141, t142, t143, t144⟩, A120, H⟩ := H
        replace H : (if t134 < 59 then (some (t129 == t137 && (t130 == t138 && (t131 == t139 && (t132 == t140 && (t133 == t141 && ((wrap64 (t134 + 1)) == t142 && (t135 == t143 && (t136 == t144))))))))) else (if t142 = 0 then (if t133 < 59 then (if t141 = (wrap64 (t133 + 1)) then (if t140 = t132 then (if t139 = t131 then (if t133 = 59 then (domesdaylaw04_DateNext.j1 kj2 (t141 != 0) t129 t130 t131 t132 t133 t134 t135 t136 t137 t138 t139 t140 t141 t142 t143 t144) else (domesdaylaw04_DateNext.j1 kj2 false t129 t130 t131 t132 t133 t134 t135 t136 t137 t138 t139 t140 t141 t142 t143 t144)) else (domesdaylaw04_DateNext.j1 kj2 true t129 t130 t131 t132 t133 t134 t135 t136 t137 t138 t139 t140 t141 t142 t143 t144)) else (domesdaylaw04_DateNext.j1 kj2 true t129 t130 t131 t132 t133 t134 t135 t136 t137 t138 t139 t140 t141 t142 t143 t144)) else (domesdaylaw04_DateNext.j1 kj2 true t129 t130 t131 t132 t133 t134 t135 t136 t137 t138 t139 t140 t141 t142 t143 t144)) else (if t133 = 59 then (domesdaylaw04_DateNext.j1 kj2 (t141 != 0) t129 t130 t131 t132 t133 t134 t135 t136 t137 t138 t139 t140 t141 t142 t143 t144) else (domesdaylaw04_DateNext.j1 kj2 false t129 t130 t131 t132 t133 t134 t135 t136 t137 t138 t139 t140 t141 t142 t143 t144))) else (domesdaylaw04_DateNext.j1 kj2 true t129 t130 t131 t132 t133 t134 t135 t136 t137 t138 t139 t140 t141 t142 t143 t144))) = some r := H
        have A12 := Aside0.mk A120
        clear A120
        by_cases c13 : t134 < 59
        · rw [if_pos c13] at H
          have c13b0 : decide (t134 < 59) = true := decide_eq_true c13
          clear c13
          obtain rfl := Option.some.inj H
          go_wp2_with (first | (go_at_call 25; (with_reducible refine (date_Of.calls kj2 a0 a1 t129 t130 t131 t132 t133 t134 t135 t136 _ A11.out).mono ?_); rintro e w14 ⟨rfl, hb⟩; have n0_ := Aside0.mk (below_step (by repeat (first | (with_reducible first | exact HB.out | apply below_alloc | apply pw_below_drewN | apply below_drew1) | exact HB.out)) hb); clear HB; have HB := n0_; clear n0_; (try clear hb); (try clear hb2); (try clear hk); (try clear hi)) | (go_at_call 25; (with_reducible refine (date_Of.calls kj2 (wrap64 (a0 + 1)) a1 t137 t138 t139 t140 t141 t142 t143 t144 _ A12.out).mono ?_); rintro e w15 ⟨rfl, hb⟩; have n0_ := Aside0.mk (below_step (by repeat (first | (with_reducible first | exact HB.out | apply below_alloc | apply pw_below_drewN | apply below_drew1) | exact HB.out)) hb); clear HB; have HB := n0_; clear n0_; (try clear hb); (try clear hb2); (try clear hk); (try clear hi)) | ((with_reducible refine gate_dst (N := 5) rfl ?_); refine box_event ?hg (N := 5) ?hd (cs := #[.int .i64 0, .int .i64 0, .int .i64 0, .int .i64 0, .int .i64 0, .int .i64 0, .int .i64 0, .int .i64 0]) (t := 37) ?hr ?_; (case hd => rfl); (case hg => rfl); (case hr => first | (go_simp; done) | (go_simp; rfl)); intro gb145 hg w16 hbox hb; have n0_ := Aside0.mk (below_step (by repeat (first | (with_reducible first | exact HB.out | apply below_alloc | apply pw_below_drewN | apply below_drew1) | exact HB.out)) hb); have n1_ := Aside0.mk (hbox); have n2_ := Aside0.mk ((by rw [hg]; exact (below_size (by repeat (first | (with_reducible first | exact HB.out | apply below_alloc | apply pw_below_drewN | apply below_drew1) | exact HB.out))) : w.heap.size ≤ gb145)); have n3_ := Aside0.mk ((by rw [hg]; exact (below_size (by repeat (first | (with_reducible first | exact HB.out | apply below_alloc | apply pw_below_drewN | apply below_drew1) | exact HB.out))) : w.heap.size ≤ gb145)); clear HB; have HB := n0_; have BK145 := n1_; have GW145 := n2_; have GE145 := n3_; clear n0_ n1_ n2_ n3_; clear hb hbox hg) | ((with_reducible refine gate_dst (N := 6) rfl ?_); refine box_event ?hg (N := 6) ?hd (cs := #[.int .i64 0, .int .i64 0, .int .i64 0, .int .i64 0, .int .i64 0, .int .i64 0, .int .i64 0, .int .i64 0]) (t := 37) ?hr ?_; (case hd => rfl); (case hg => rfl); (case hr => first | (go_simp; done) | (go_simp; rfl)); intro gb146 hg w17 hbox hb; have n0_ := Aside0.mk (blk_below (g := gb145) (o := .cells #[.int .i64 0, .int .i64 0, .int .i64 0, .int .i64 0, .int .i64 0, .int .i64 0, .int .i64 0, .int .i64 0] 37 (0, 0)) (by (with_reducible repeat (first | refine blk_drewN ?_ _ | refine blk_drew ?_ | refine blk_alloc ?_ _)); exact BK145.out) hb); have n1_ := Aside0.mk (below_step (by repeat (first | (with_reducible first | exact HB.out | apply below_alloc | apply pw_below_drewN | apply below_drew1 | refine below_set ?_ GE145.out) | exact HB.out)) hb); have n2_ := Aside0.mk (hbox); have n3_ := Aside0.mk ((by rw [hg]; exact (below_size (by repeat (first | (with_reducible first | exact HB.out | apply below_alloc | apply pw_below_drewN | apply below_drew1 | refine below_set ?_ GE145.out) | exact HB.out))) : w.heap.size ≤ gb146)); have n4_ := Aside0.mk ((by rw [hg]; exact (below_size (by repeat (first | (with_reducible first | exact HB.out | apply below_alloc | apply pw_below_drewN | apply below_drew1 | refine below_set ?_ GE145.out) | exact HB.out))) : w.heap.size ≤ gb146)); have n5_ := Aside0.mk ((by rw [hg]; exact Nat.ne_of_lt (blk_lt (g := gb145) (o := .cells #[.int .i64 0, .int .i64 0, .int .i64 0, .int .i64 0, .int .i64 0, .int .i64 0, .int .i64 0, .int .i64 0] 37 (0, 0)) (by (with_reducible repeat (first | refine blk_drewN ?_ _ | refine blk_drew ?_ | refine blk_alloc ?_ _)); exact BK145.out)) : gb145 ≠ gb146)); have n6_ := Aside0.mk ((by rw [hg]; exact Nat.ne_of_gt (blk_lt (g := gb145) (o := .cells #[.int .i64 0, .int .i64 0, .int .i64 0, .int .i64 0, .int .i64 0, .int .i64 0, .int .i64 0, .int .i64 0] 37 (0, 0)) (by (with_reducible repeat (first | refine blk_drewN ?_ _ | refine blk_drew ?_ | refine blk_alloc ?_ _)); exact BK145.out)) : gb146 ≠ gb145)); clear BK145; clear HB; have BK145 := n0_; have HB := n1_; have BK146 := n2_; have GW146 := n3_; have GE146 := n4_; have NB145_146 := n5_; have NB146_145 := n6_; clear n0_ n1_ n2_ n3_ n4_ n5_ n6_; clear hb hbox hg; have hnb18 := NB145_146.out; have hnc18 := NB146_145.out; have hcz19_0 : w17.cell? ⟨gb145, 0, none⟩ = some (.int .i64 0) := (blk_cell BK145.out 0).trans rfl; have hcz19_1 : w17.cell? ⟨gb145, 1, none⟩ = some (.int .i64 0) := (blk_cell BK145.out 1).trans rfl; have hcz19_2 : w17.cell? ⟨gb145, 2, none⟩ = some (.int .i64 0) := (blk_cell BK145.out 2).trans rfl; have hcz19_3 : w17.cell? ⟨gb145, 3, none⟩ = some (.int .i64 0) := (blk_cell BK145.out 3).trans rfl; have hcz19_4 : w17.cell? ⟨gb145, 4, none⟩ = some (.int .i64 0) := (blk_cell BK145.out 4).trans rfl; have hcz19_5 : w17.cell? ⟨gb145, 5, none⟩ = some (.int .i64 0) := (blk_cell BK145.out 5).trans rfl; have hcz19_6 : w17.cell? ⟨gb145, 6, none⟩ = some (.int .i64 0) := (blk_cell BK145.out 6).trans rfl; have hcz19_7 : w17.cell? ⟨gb145, 7, none⟩ = some (.int .i64 0) := (blk_cell BK145.out 7).trans rfl; have hfz19_0 := blk_frozen BK145.out 0; have hfz19_1 := blk_frozen BK145.out 1; have hfz19_2 := blk_frozen BK145.out 2; have hfz19_3 := blk_frozen BK145.out 3; have hfz19_4 := blk_frozen BK145.out 4; have hfz19_5 := blk_frozen BK145.out 5; have hfz19_6 := blk_frozen BK145.out 6; have hfz19_7 := blk_frozen BK145.out 7) | ((with_reducible refine gate_store (t := 37) (p := 5) rfl ?_); (try (rw [drewN_self w17]; generalize hq_ : World.drewN w17 _ = w17; have n0_ := Aside0.mk (blk_at hq_ BK145.out); have n1_ := Aside0.mk (blk_at hq_ BK146.out); have n2_ := Aside0.mk (below_at hq_ HB.out); clear hq_ BK145 BK146 HB; have BK145 := n0_; have BK146 := n1_; have HB := n2_; clear n0_ n1_ n2_)); refine store_event (t := 37) (p := 5) (v := ?vo_w20) (w1 := ((((((((w17.setCell ⟨gb145, 0, none⟩ (.int .i64 t129)).setCell ⟨gb145, 1, none⟩ (.int .i64 t130)).setCell ⟨gb145, 2, none⟩ (.int .i64 t131)).setCell ⟨gb145, 3, none⟩ (.int .i64 t132)).setCell ⟨gb145, 4, none⟩ (.int .i64 t133)).setCell ⟨gb145, 5, none⟩ (.int .i64 t134)).setCell ⟨gb145, 6, none⟩ (.int .i64 t135)).setCell ⟨gb145, 7, none⟩ (.int .i64 t136))) ?hg ?ho ?hn ?hr ?_; (case ho => rfl); (case hg => rfl); (case hn => rfl); (case hr => first | (go_simp; done) | (go_simp; rfl)); intro w20 hw; have n0_ : Aside0 (w20.heap[gb145]? = some (.cells #[.int .i64 t129, .int .i64 t130, .int .i64 t131, .int .i64 t132, .int .i64 t133, .int .i64 t134, .int .i64 t135, .int .i64 t136] 37 (0, 0))) := ⟨(by rw [hw]; exact (by (with_reducible repeat (first | refine blk_drewN ?_ _ | refine blk_drew ?_ | refine blk_alloc ?_ _)); refine blk_put (cs := #[.int .i64 t129, .int .i64 t130, .int .i64 t131, .int .i64 t132, .int .i64 t133, .int .i64 t134, .int .i64 t135, .int .i64 0]) ?_ 7 _ (by first | rfl | (simp; done)); (with_reducible repeat (first | refine blk_drewN ?_ _ | refine blk_drew ?_ | refine blk_alloc ?_ _)); refine blk_put (cs := #[.int .i64 t129, .int .i64 t130, .int .i64 t131, .int .i64 t132, .int .i64 t133, .int .i64 t134, .int .i64 0, .int .i64 0]) ?_ 6 _ (by first | rfl | (simp; done)); (with_reducible repeat (first | refine blk_drewN ?_ _ | refine blk_drew ?_ | refine blk_alloc ?_ _)); refine blk_put (cs := #[.int .i64 t129, .int .i64 t130, .int .i64 t131, .int .i64 t132, .int .i64 t133, .int .i64 0, .int .i64 0, .int .i64 0]) ?_ 5 _ (by first | rfl | (simp; done)); (with_reducible repeat (first | refine blk_drewN ?_ _ | refine blk_drew ?_ | refine blk_alloc ?_ _)); refine blk_put (cs := #[.int .i64 t129, .int .i64 t130, .int .i64 t131, .int .i64 t132, .int .i64 0, .int .i64 0, .int .i64 0, .int .i64 0]) ?_ 4 _ (by first | rfl | (simp; done)); (with_reducible repeat (first | refine blk_drewN ?_ _ | refine blk_drew ?_ | refine blk_alloc ?_ _)); refine blk_put (cs := #[.int .i64 t129, .int .i64 t130, .int .i64 t131, .int .i64 0, .int .i64 0, .int .i64 0, .int .i64 0, .int .i64 0]) ?_ 3 _ (by first | rfl | (simp; done)); (with_reducible repeat (first | refine blk_drewN ?_ _ | refine blk_drew ?_ | refine blk_alloc ?_ _)); refine blk_put (cs := #[.int .i64 t129, .int .i64 t130, .int .i64 0, .int .i64 0, .int .i64 0, .int .i64 0, .int .i64 0, .int .i64 0]) ?_ 2 _ (by first | rfl | (simp; done)); (with_reducible repeat (first | refine blk_drewN ?_ _ | refine blk_drew ?_ | refine blk_alloc ?_ _)); refine blk_put (cs := #[.int .i64 t129, .int .i64 0, .int .i64 0, .int .i64 0, .int .i64 0, .int .i64 0, .int .i64 0, .int .i64 0]) ?_ 1 _ (by first | rfl | (simp; done)); (with_reducible repeat (first | refine blk_drewN ?_ _ | refine blk_drew ?_ | refine blk_alloc ?_ _)); refine blk_put (cs := #[.int .i64 0, .int .i64 0, .int .i64 0, .int .i64 0, .int .i64 0, .int .i64 0, .int .i64 0, .int .i64 0]) ?_ 0 _ (by first | rfl | (simp; done)); (with_reducible repeat (first | refine blk_drewN ?_ _ | refine blk_drew ?_ | refine blk_alloc ?_ _)); exact BK145.out))⟩; have n1_ : Aside0 (w20.heap[gb146]? = some (.cells #[.int .i64 0, .int .i64 0, .int .i64 0, .int .i64 0, .int .i64 0, .int .i64 0, .int .i64 0, .int .i64 0] 37 (0, 0))) := ⟨(by rw [hw]; exact (by (with_reducible repeat (first | refine blk_drewN ?_ _ | refine blk_drew ?_ | refine blk_alloc ?_ _)); refine blk_far ?_ NB146_145.out _; (with_reducible repeat (first | refine blk_drewN ?_ _ | refine blk_drew ?_ | refine blk_alloc ?_ _)); refine blk_far ?_ NB146_145.out _; (with_reducible repeat (first | refine blk_drewN ?_ _ | refine blk_drew ?_ | refine blk_alloc ?_ _)); refine blk_far ?_ NB146_145.out _; (with_reducible repeat (first | refine blk_drewN ?_ _ | refine blk_drew ?_ | refine blk_alloc ?_ _)); refine blk_far ?_ NB146_145.out _; (with_reducible repeat (first | refine blk_drewN ?_ _ | refine blk_drew ?_ | refine blk_alloc ?_ _)); refine blk_far ?_ NB146_145.out _; (with_reducible repeat (first | refine blk_drewN ?_ _ | refine blk_drew ?_ | refine blk_alloc ?_ _)); refine blk_far ?_ NB146_145.out _; (with_reducible repeat (first | refine blk_drewN ?_ _ | refine blk_drew ?_ | refine blk_alloc ?_ _)); refine blk_far ?_ NB146_145.out _; (with_reducible repeat (first | refine blk_drewN ?_ _ | refine blk_drew ?_ | refine blk_alloc ?_ _)); refine blk_far ?_ NB146_145.out _; (with_reducible repeat (first | refine blk_drewN ?_ _ | refine blk_drew ?_ | refine blk_alloc ?_ _)); exact BK146.out))⟩; have n2_ : Aside0 (Below w.heap.size w w20) := ⟨(by rw [hw]; exact (by repeat (first | (with_reducible first | exact HB.out | apply below_alloc | apply pw_below_drewN | apply below_drew1 | refine below_set ?_ GE145.out | refine below_set ?_ GE146.out) | exact HB.out)))⟩; clear hw; clear BK145; clear BK146; clear HB; have BK145 := n0_; have BK146 := n1_; have HB := n2_; clear n0_ n1_ n2_; have hcz21_0 : w20.cell? ⟨gb146, 0, none⟩ = some (.int .i64 0) := (blk_cell BK146.out 0).trans rfl; have hcz21_1 : w20.cell? ⟨gb146, 1, none⟩ = some (.int .i64 0) := (blk_cell BK146.out 1).trans rfl; have hcz21_2 : w20.cell? ⟨gb146, 2, none⟩ = some (.int .i64 0) := (blk_cell BK146.out 2).trans rfl; have hcz21_3 : w20.cell? ⟨gb146, 3, none⟩ = some (.int .i64 0) := (blk_cell BK146.out 3).trans rfl; have hcz21_4 : w20.cell? ⟨gb146, 4, none⟩ = some (.int .i64 0) := (blk_cell BK146.out 4).trans rfl; have hcz21_5 : w20.cell? ⟨gb146, 5, none⟩ = some (.int .i64 0) := (blk_cell BK146.out 5).trans rfl; have hcz21_6 : w20.cell? ⟨gb146, 6, none⟩ = some (.int .i64 0) := (blk_cell BK146.out 6).trans rfl; have hcz21_7 : w20.cell? ⟨gb146, 7, none⟩ = some (.int .i64 0) := (blk_cell BK146.out 7).trans rfl; have hfz21_0 := blk_frozen BK146.out 0; have hfz21_1 := blk_frozen BK146.out 1; have hfz21_2 := blk_frozen BK146.out 2; have hfz21_3 := blk_frozen BK146.out 3; have hfz21_4 := blk_frozen BK146.out 4; have hfz21_5 := blk_frozen BK146.out 5; have hfz21_6 := blk_frozen BK146.out 6; have hfz21_7 := blk_frozen BK146.out 7) | ((with_reducible refine gate_store (t := 37) (p := 6) rfl ?_); (try (rw [drewN_self w20]; generalize hq_ : World.drewN w20 _ = w20; have n0_ := Aside0.mk (blk_at hq_ BK145.out); have n1_ := Aside0.mk (blk_at hq_ BK146.out); have n2_ := Aside0.mk (below_at hq_ HB.out); clear hq_ BK145 BK146 HB; have BK145 := n0_; have BK146 := n1_; have HB := n2_; clear n0_ n1_ n2_)); refine store_event (t := 37) (p := 6) (v := ?vo_w22) (w1 := ((((((((w20.setCell ⟨gb146, 0, none⟩ (.int .i64 t137)).setCell ⟨gb146, 1, none⟩ (.int .i64 t138)).setCell ⟨gb146, 2, none⟩ (.int .i64 t139)).setCell ⟨gb146, 3, none⟩ (.int .i64 t140)).setCell ⟨gb146, 4, none⟩ (.int .i64 t141)).setCell ⟨gb146, 5, none⟩ (.int .i64 t142)).setCell ⟨gb146, 6, none⟩ (.int .i64 t143)).setCell ⟨gb146, 7, none⟩ (.int .i64 t144))) ?hg ?ho ?hn ?hr ?_; (case ho => rfl); (case hg => rfl); (case hn => rfl); (case hr => first | (go_simp; done) | (go_simp; rfl)); intro w22 hw; have n0_ : Aside0 (w22.heap[gb145]? = some (.cells #[.int .i64 t129, .int .i64 t130, .int .i64 t131, .int .i64 t132, .int .i64 t133, .int .i64 t134, .int .i64 t135, .int .i64 t136] 37 (0, 0))) := ⟨(by rw [hw]; exact (by (with_reducible repeat (first | refine blk_drewN ?_ _ | refine blk_drew ?_ | refine blk_alloc ?_ _)); refine blk_far ?_ NB145_146.out _; (with_reducible repeat (first | refine blk_drewN ?_ _ | refine blk_drew ?_ | refine blk_alloc ?_ _)); refine blk_far ?_ NB145_146.out _; (with_reducible repeat (first | refine blk_drewN ?_ _ | refine blk_drew ?_ | refine blk_alloc ?_ _)); refine blk_far ?_ NB145_146.out _; (with_reducible repeat (first | refine blk_drewN ?_ _ | refine blk_drew ?_ | refine blk_alloc ?_ _)); refine blk_far ?_ NB145_146.out _; (with_reducible repeat (first | refine blk_drewN ?_ _ | refine blk_drew ?_ | refine blk_alloc ?_ _)); refine blk_far ?_ NB145_146.out _; (with_reducible repeat (first | refine blk_drewN ?_ _ | refine blk_drew ?_ | refine blk_alloc ?_ _)); refine blk_far ?_ NB145_146.out _; (with_reducible repeat (first | refine blk_drewN ?_ _ | refine blk_drew ?_ | refine blk_alloc ?_ _)); refine blk_far ?_ NB145_146.out _; (with_reducible repeat (first | refine blk_drewN ?_ _ | refine blk_drew ?_ | refine blk_alloc ?_ _)); refine blk_far ?_ NB145_146.out _; (with_reducible repeat (first | refine blk_drewN ?_ _ | refine blk_drew ?_ | refine blk_alloc ?_ _)); exact BK145.out))⟩; have n1_ : Aside0 (w22.heap[gb146]? = some (.cells #[.int .i64 t137, .int .i64 t138, .int .i64 t139, .int .i64 t140, .int .i64 t141, .int .i64 t142, .int .i64 t143, .int .i64 t144] 37 (0, 0))) := ⟨(by rw [hw]; exact (by (with_reducible repeat (first | refine blk_drewN ?_ _ | refine blk_drew ?_ | refine blk_alloc ?_ _)); refine blk_put (cs := #[.int .i64 t137, .int .i64 t138, .int .i64 t139, .int .i64 t140, .int .i64 t141, .int .i64 t142, .int .i64 t143, .int .i64 0]) ?_ 7 _ (by first | rfl | (simp; done)); (with_reducible repeat (first | refine blk_drewN ?_ _ | refine blk_drew ?_ | refine blk_alloc ?_ _)); refine blk_put (cs := #[.int .i64 t137, .int .i64 t138, .int .i64 t139, .int .i64 t140, .int .i64 t141, .int .i64 t142, .int .i64 0, .int .i64 0]) ?_ 6 _ (by first | rfl | (simp; done)); (with_reducible repeat (first | refine blk_drewN ?_ _ | refine blk_drew ?_ | refine blk_alloc ?_ _)); refine blk_put (cs := #[.int .i64 t137, .int .i64 t138, .int .i64 t139, .int .i64 t140, .int .i64 t141, .int .i64 0, .int .i64 0, .int .i64 0]) ?_ 5 _ (by first | rfl | (simp; done)); (with_reducible repeat (first | refine blk_drewN ?_ _ | refine blk_drew ?_ | refine blk_alloc ?_ _)); refine blk_put (cs := #[.int .i64 t137, .int .i64 t138, .int .i64 t139, .int .i64 t140, .int .i64 0, .int .i64 0, .int .i64 0, .int .i64 0]) ?_ 4 _ (by first | rfl | (simp; done)); (with_reducible repeat (first | refine blk_drewN ?_ _ | refine blk_drew ?_ | refine blk_alloc ?_ _)); refine blk_put (cs := #[.int .i64 t137, .int .i64 t138, .int .i64 t139, .int .i64 0, .int .i64 0, .int .i64 0, .int .i64 0, .int .i64 0]) ?_ 3 _ (by first | rfl | (simp; done)); (with_reducible repeat (first | refine blk_drewN ?_ _ | refine blk_drew ?_ | refine blk_alloc ?_ _)); refine blk_put (cs := #[.int .i64 t137, .int .i64 t138, .int .i64 0, .int .i64 0, .int .i64 0, .int .i64 0, .int .i64 0, .int .i64 0]) ?_ 2 _ (by first | rfl | (simp; done)); (with_reducible repeat (first | refine blk_drewN ?_ _ | refine blk_drew ?_ | refine blk_alloc ?_ _)); refine blk_put (cs := #[.int .i64 t137, .int .i64 0, .int .i64 0, .int .i64 0, .int .i64 0, .int .i64 0, .int .i64 0, .int .i64 0]) ?_ 1 _ (by first | rfl | (simp; done)); (with_reducible repeat (first | refine blk_drewN ?_ _ | refine blk_drew ?_ | refine blk_alloc ?_ _)); refine blk_put (cs := #[.int .i64 0, .int .i64 0, .int .i64 0, .int .i64 0, .int .i64 0, .int .i64 0, .int .i64 0, .int .i64 0]) ?_ 0 _ (by first | rfl | (simp; done)); (with_reducible repeat (first | refine blk_drewN ?_ _ | refine blk_drew ?_ | refine blk_alloc ?_ _)); exact BK146.out))⟩; have n2_ : Aside0 (Below w.heap.size w w22) := ⟨(by rw [hw]; exact (by repeat (first | (with_reducible first | exact HB.out | apply below_alloc | apply pw_below_drewN | apply below_drew1 | refine below_set ?_ GE145.out | refine below_set ?_ GE146.out) | exact HB.out)))⟩; clear hw; clear BK145; clear BK146; clear HB; have BK145 := n0_; have BK146 := n1_; have HB := n2_; clear n0_ n1_ n2_; have hcz23_0 : w22.cell? ⟨gb145, 0, none⟩ = some (.int .i64 t129) := (blk_cell BK145.out 0).trans rfl; have hcz23_1 : w22.cell? ⟨gb145, 1, none⟩ = some (.int .i64 t130) := (blk_cell BK145.out 1).trans rfl; have hcz23_2 : w22.cell? ⟨gb145, 2, none⟩ = some (.int .i64 t131) := (blk_cell BK145.out 2).trans rfl; have hcz23_3 : w22.cell? ⟨gb145, 3, none⟩ = some (.int .i64 t132) := (blk_cell BK145.out 3).trans rfl; have hcz23_4 : w22.cell? ⟨gb145, 4, none⟩ = some (.int .i64 t133) := (blk_cell BK145.out 4).trans rfl; have hcz23_5 : w22.cell? ⟨gb145, 5, none⟩ = some (.int .i64 t134) := (blk_cell BK145.out 5).trans rfl; have hcz23_6 : w22.cell? ⟨gb145, 6, none⟩ = some (.int .i64 t135) := (blk_cell BK145.out 6).trans rfl; have hcz23_7 : w22.cell? ⟨gb145, 7, none⟩ = some (.int .i64 t136) := (blk_cell BK145.out 7).trans rfl; have hfz23_0 := blk_frozen BK145.out 0; have hfz23_1 := blk_frozen BK145.out 1; have hfz23_2 := blk_frozen BK145.out 2; have hfz23_3 := blk_frozen BK145.out 3; have hfz23_4 := blk_frozen BK145.out 4; have hfz23_5 := blk_frozen BK145.out 5; have hfz23_6 := blk_frozen BK145.out 6; have hfz23_7 := blk_frozen BK145.out 7; have hcz24_0 : w22.cell? ⟨gb146, 0, none⟩ = some (.int .i64 t137) := (blk_cell BK146.out 0).trans rfl; have hcz24_1 : w22.cell? ⟨gb146, 1, none⟩ = some (.int .i64 t138) := (blk_cell BK146.out 1).trans rfl; have hcz24_2 : w22.cell? ⟨gb146, 2, none⟩ = some (.int .i64 t139) := (blk_cell BK146.out 2).trans rfl; have hcz24_3 : w22.cell? ⟨gb146, 3, none⟩ = some (.int .i64 t140) := (blk_cell BK146.out 3).trans rfl; have hcz24_4 : w22.cell? ⟨gb146, 4, none⟩ = some (.int .i64 t141) := (blk_cell BK146.out 4).trans rfl; have hcz24_5 : w22.cell? ⟨gb146, 5, none⟩ = some (.int .i64 t142) := (blk_cell BK146.out 5).trans rfl; have hcz24_6 : w22.cell? ⟨gb146, 6, none⟩ = some (.int .i64 t143) := (blk_cell BK146.out 6).trans rfl; have hcz24_7 : w22.cell? ⟨gb146, 7, none⟩ = some (.int .i64 t144) := (blk_cell BK146.out 7).trans rfl; have hfz24_0 := blk_frozen BK146.out 0; have hfz24_1 := blk_frozen BK146.out 1; have hfz24_2 := blk_frozen BK146.out 2; have hfz24_3 := blk_frozen BK146.out 3; have hfz24_4 := blk_frozen BK146.out 4; have hfz24_5 := blk_frozen BK146.out 5; have hfz24_6 := blk_frozen BK146.out 6; have hfz24_7 := blk_frozen BK146.out 7))
          repeat (go_quiet (first | (go_at_call 25; (with_reducible refine (date_Of.calls kj2 a0 a1 t129 t130 t131 t132 t133 t134 t135 t136 _ A11.out).mono ?_); rintro e w14 ⟨rfl, hb⟩; have n0_ := Aside0.mk (below_step (by repeat (first | (with_reducible first | exact HB.out | apply below_alloc | apply pw_below_drewN | apply below_drew1) | exact HB.out)) hb); clear HB; have HB := n0_; clear n0_; (try clear hb); (try clear hb2); (try clear hk); (try clear hi)) | (go_at_call 25; (with_reducible refine (date_Of.calls kj2 (wrap64 (a0 + 1)) a1 t137 t138 t139 t140 t141 t142 t143 t144 _ A12.out).mono ?_); rintro e w15 ⟨rfl, hb⟩; have n0_ := Aside0.mk (below_step (by repeat (first | (with_reducible first | exact HB.out | apply below_alloc | apply pw_below_drewN | apply below_drew1) | exact HB.out)) hb); clear HB; have HB := n0_; clear n0_; (try clear hb); (try clear hb2); (try clear hk); (try clear hi)) | ((with_reducible refine gate_dst (N := 5) rfl ?_); refine box_event ?hg (N := 5) ?hd (cs := #[.int .i64 0, .int .i64 0, .int .i64 0, .int .i64 0, .int .i64 0, .int .i64 0, .int .i64 0, .int .i64 0]) (t := 37) ?hr ?_; (case hd => rfl); (case hg => rfl); (case hr => first | (go_simp; done) | (go_simp; rfl)); intro gb145 hg w16 hbox hb; have n0_ := Aside0.mk (below_step (by repeat (first | (with_reducible first | exact HB.out | apply below_alloc | apply pw_below_drewN | apply below_drew1) | exact HB.out)) hb); have n1_ := Aside0.mk (hbox); have n2_ := Aside0.mk ((by rw [hg]; exact (below_size (by repeat (first | (with_reducible first | exact HB.out | apply below_alloc | apply pw_below_drewN | apply below_drew1) | exact HB.out))) : w.heap.size ≤ gb145)); have n3_ := Aside0.mk ((by rw [hg]; exact (below_size (by repeat (first | (with_reducible first | exact HB.out | apply below_alloc | apply pw_below_drewN | apply below_drew1) | exact HB.out))) : w.heap.size ≤ gb145)); clear HB; have HB := n0_; have BK145 := n1_; have GW145 := n2_; have GE145 := n3_; clear n0_ n1_ n2_ n3_; clear hb hbox hg) | ((with_reducible refine gate_dst (N := 6) rfl ?_); refine box_event ?hg (N := 6) ?hd (cs := #[.int .i64 0, .int .i64 0, .int .i64 0, .int .i64 0, .int .i64 0, .int .i64 0, .int .i64 0, .int .i64 0]) (t := 37) ?hr ?_; (case hd => rfl); (case hg => rfl); (case hr => first | (go_simp; done) | (go_simp; rfl)); intro gb146 hg w17 hbox hb; have n0_ := Aside0.mk (blk_below (g := gb145) (o := .cells #[.int .i64 0, .int .i64 0, .int .i64 0, .int .i64 0, .int .i64 0, .int .i64 0, .int .i64 0, .int .i64 0] 37 (0, 0)) (by (with_reducible repeat (first | refine blk_drewN ?_ _ | refine blk_drew ?_ | refine blk_alloc ?_ _)); exact BK145.out) hb); have n1_ := Aside0.mk (below_step (by repeat (first | (with_reducible first | exact HB.out | apply below_alloc | apply pw_below_drewN | apply below_drew1 | refine below_set ?_ GE145.out) | exact HB.out)) hb); have n2_ := Aside0.mk (hbox); have n3_ := Aside0.mk ((by rw [hg]; exact (below_size (by repeat (first | (with_reducible first | exact HB.out | apply below_alloc | apply pw_below_drewN | apply below_drew1 | refine below_set ?_ GE145.out) | exact HB.out))) : w.heap.size ≤ gb146)); have n4_ := Aside0.mk ((by rw [hg]; exact (below_size (by repeat (first | (with_reducible first | exact HB.out | apply below_alloc | apply pw_below_drewN | apply below_drew1 | refine below_set ?_ GE145.out) | exact HB.out))) : w.heap.size ≤ gb146)); have n5_ := Aside0.mk ((by rw [hg]; exact Nat.ne_of_lt (blk_lt (g := gb145) (o := .cells #[.int .i64 0, .int .i64 0, .int .i64 0, .int .i64 0, .int .i64 0, .int .i64 0, .int .i64 0, .int .i64 0] 37 (0, 0)) (by (with_reducible repeat (first | refine blk_drewN ?_ _ | refine blk_drew ?_ | refine blk_alloc ?_ _)); exact BK145.out)) : gb145 ≠ gb146)); have n6_ := Aside0.mk ((by rw [hg]; exact Nat.ne_of_gt (blk_lt (g := gb145) (o := .cells #[.int .i64 0, .int .i64 0, .int .i64 0, .int .i64 0, .int .i64 0, .int .i64 0, .int .i64 0, .int .i64 0] 37 (0, 0)) (by (with_reducible repeat (first | refine blk_drewN ?_ _ | refine blk_drew ?_ | refine blk_alloc ?_ _)); exact BK145.out)) : gb146 ≠ gb145)); clear BK145; clear HB; have BK145 := n0_; have HB := n1_; have BK146 := n2_; have GW146 := n3_; have GE146 := n4_; have NB145_146 := n5_; have NB146_145 := n6_; clear n0_ n1_ n2_ n3_ n4_ n5_ n6_; clear hb hbox hg; have hnb18 := NB145_146.out; have hnc18 := NB146_145.out; have hcz19_0 : w17.cell? ⟨gb145, 0, none⟩ = some (.int .i64 0) := (blk_cell BK145.out 0).trans rfl; have hcz19_1 : w17.cell? ⟨gb145, 1, none⟩ = some (.int .i64 0) := (blk_cell BK145.out 1).trans rfl; have hcz19_2 : w17.cell? ⟨gb145, 2, none⟩ = some (.int .i64 0) := (blk_cell BK145.out 2).trans rfl; have hcz19_3 : w17.cell? ⟨gb145, 3, none⟩ = some (.int .i64 0) := (blk_cell BK145.out 3).trans rfl; have hcz19_4 : w17.cell? ⟨gb145, 4, none⟩ = some (.int .i64 0) := (blk_cell BK145.out 4).trans rfl; have hcz19_5 : w17.cell? ⟨gb145, 5, none⟩ = some (.int .i64 0) := (blk_cell BK145.out 5).trans rfl; have hcz19_6 : w17.cell? ⟨gb145, 6, none⟩ = some (.int .i64 0) := (blk_cell BK145.out 6).trans rfl; have hcz19_7 : w17.cell? ⟨gb145, 7, none⟩ = some (.int .i64 0) := (blk_cell BK145.out 7).trans rfl; have hfz19_0 := blk_frozen BK145.out 0; have hfz19_1 := blk_frozen BK145.out 1; have hfz19_2 := blk_frozen BK145.out 2; have hfz19_3 := blk_frozen BK145.out 3; have hfz19_4 := blk_frozen BK145.out 4; have hfz19_5 := blk_frozen BK145.out 5; have hfz19_6 := blk_frozen BK145.out 6; have hfz19_7 := blk_frozen BK145.out 7) | ((with_reducible refine gate_store (t := 37) (p := 5) rfl ?_); (try (rw [drewN_self w17]; generalize hq_ : World.drewN w17 _ = w17; have n0_ := Aside0.mk (blk_at hq_ BK145.out); have n1_ := Aside0.mk (blk_at hq_ BK146.out); have n2_ := Aside0.mk (below_at hq_ HB.out); clear hq_ BK145 BK146 HB; have BK145 := n0_; have BK146 := n1_; have HB := n2_; clear n0_ n1_ n2_)); refine store_event (t := 37) (p := 5) (v := ?vo_w20) (w1 := ((((((((w17.setCell ⟨gb145, 0, none⟩ (.int .i64 t129)).setCell ⟨gb145, 1, none⟩ (.int .i64 t130)).setCell ⟨gb145, 2, none⟩ (.int .i64 t131)).setCell ⟨gb145, 3, none⟩ (.int .i64 t132)).setCell ⟨gb145, 4, none⟩ (.int .i64 t133)).setCell ⟨gb145, 5, none⟩ (.int .i64 t134)).setCell ⟨gb145, 6, none⟩ (.int .i64 t135)).setCell ⟨gb145, 7, none⟩ (.int .i64 t136))) ?hg ?ho ?hn ?hr ?_; (case ho => rfl); (case hg => rfl); (case hn => rfl); (case hr => first | (go_simp; done) | (go_simp; rfl)); intro w20 hw; have n0_ : Aside0 (w20.heap[gb145]? = some (.cells #[.int .i64 t129, .int .i64 t130, .int .i64 t131, .int .i64 t132, .int .i64 t133, .int .i64 t134, .int .i64 t135, .int .i64 t136] 37 (0, 0))) := ⟨(by rw [hw]; exact (by (with_reducible repeat (first | refine blk_drewN ?_ _ | refine blk_drew ?_ | refine blk_alloc ?_ _)); refine blk_put (cs := #[.int .i64 t129, .int .i64 t130, .int .i64 t131, .int .i64 t132, .int .i64 t133, .int .i64 t134, .int .i64 t135, .int .i64 0]) ?_ 7 _ (by first | rfl | (simp; done)); (with_reducible repeat (first | refine blk_drewN ?_ _ | refine blk_drew ?_ | refine blk_alloc ?_ _)); refine blk_put (cs := #[.int .i64 t129, .int .i64 t130, .int .i64 t131, .int .i64 t132, .int .i64 t133, .int .i64 t134, .int .i64 0, .int .i64 0]) ?_ 6 _ (by first | rfl | (simp; done)); (with_reducible repeat (first | refine blk_drewN ?_ _ | refine blk_drew ?_ | refine blk_alloc ?_ _)); refine blk_put (cs := #[.int .i64 t129, .int .i64 t130, .int .i64 t131, .int .i64 t132, .int .i64 t133, .int .i64 0, .int .i64 0, .int .i64 0]) ?_ 5 _ (by first | rfl | (simp; done)); (with_reducible repeat (first | refine blk_drewN ?_ _ | refine blk_drew ?_ | refine blk_alloc ?_ _)); refine blk_put (cs := #[.int .i64 t129, .int .i64 t130, .int .i64 t131, .int .i64 t132, .int .i64 0, .int .i64 0, .int .i64 0, .int .i64 0]) ?_ 4 _ (by first | rfl | (simp; done)); (with_reducible repeat (first | refine blk_drewN ?_ _ | refine blk_drew ?_ | refine blk_alloc ?_ _)); refine blk_put (cs := #[.int .i64 t129, .int .i64 t130, .int .i64 t131, .int .i64 0, .int .i64 0, .int .i64 0, .int .i64 0, .int .i64 0]) ?_ 3 _ (by first | rfl | (simp; done)); (with_reducible repeat (first | refine blk_drewN ?_ _ | refine blk_drew ?_ | refine blk_alloc ?_ _)); refine blk_put (cs := #[.int .i64 t129, .int .i64 t130, .int .i64 0, .int .i64 0, .int .i64 0, .int .i64 0, .int .i64 0, .int .i64 0]) ?_ 2 _ (by first | rfl | (simp; done)); (with_reducible repeat (first | refine blk_drewN ?_ _ | refine blk_drew ?_ | refine blk_alloc ?_ _)); refine blk_put (cs := #[.int .i64 t129, .int .i64 0, .int .i64 0, .int .i64 0, .int .i64 0, .int .i64 0, .int .i64 0, .int .i64 0]) ?_ 1 _ (by first | rfl | (simp; done)); (with_reducible repeat (first | refine blk_drewN ?_ _ | refine blk_drew ?_ | refine blk_alloc ?_ _)); refine blk_put (cs := #[.int .i64 0, .int .i64 0, .int .i64 0, .int .i64 0, .int .i64 0, .int .i64 0, .int .i64 0, .int .i64 0]) ?_ 0 _ (by first | rfl | (simp; done)); (with_reducible repeat (first | refine blk_drewN ?_ _ | refine blk_drew ?_ | refine blk_alloc ?_ _)); exact BK145.out))⟩; have n1_ : Aside0 (w20.heap[gb146]? = some (.cells #[.int .i64 0, .int .i64 0, .int .i64 0, .int .i64 0, .int .i64 0, .int .i64 0, .int .i64 0, .int .i64 0] 37 (0, 0))) := ⟨(by rw [hw]; exact (by (with_reducible repeat (first | refine blk_drewN ?_ _ | refine blk_drew ?_ | refine blk_alloc ?_ _)); refine blk_far ?_ NB146_145.out _; (with_reducible repeat (first | refine blk_drewN ?_ _ | refine blk_drew ?_ | refine blk_alloc ?_ _)); refine blk_far ?_ NB146_145.out _; (with_reducible repeat (first | refine blk_drewN ?_ _ | refine blk_drew ?_ | refine blk_alloc ?_ _)); refine blk_far ?_ NB146_145.out _; (with_reducible repeat (first | refine blk_drewN ?_ _ | refine blk_drew ?_ | refine blk_alloc ?_ _)); refine blk_far ?_ NB146_145.out _; (with_reducible repeat (first | refine blk_drewN ?_ _ | refine blk_drew ?_ | refine blk_alloc ?_ _)); refine blk_far ?_ NB146_145.out _; (with_reducible repeat (first | refine blk_drewN ?_ _ | refine blk_drew ?_ | refine blk_alloc ?_ _)); refine blk_far ?_ NB146_145.out _; (with_reducible repeat (first | refine blk_drewN ?_ _ | refine blk_drew ?_ | refine blk_alloc ?_ _)); refine blk_far ?_ NB146_145.out _; (with_reducible repeat (first | refine blk_drewN ?_ _ | refine blk_drew ?_ | refine blk_alloc ?_ _)); refine blk_far ?_ NB146_145.out _; (with_reducible repeat (first | refine blk_drewN ?_ _ | refine blk_drew ?_ | refine blk_alloc ?_ _)); exact BK146.out))⟩; have n2_ : Aside0 (Below w.heap.size w w20) := ⟨(by rw [hw]; exact (by repeat (first | (with_reducible first | exact HB.out | apply below_alloc | apply pw_below_drewN | apply below_drew1 | refine below_set ?_ GE145.out | refine below_set ?_ GE146.out) | exact HB.out)))⟩; clear hw; clear BK145; clear BK146; clear HB; have BK145 := n0_; have BK146 := n1_; have HB := n2_; clear n0_ n1_ n2_; have hcz21_0 : w20.cell? ⟨gb146, 0, none⟩ = some (.int .i64 0) := (blk_cell BK146.out 0).trans rfl; have hcz21_1 : w20.cell? ⟨gb146, 1, none⟩ = some (.int .i64 0) := (blk_cell BK146.out 1).trans rfl; have hcz21_2 : w20.cell? ⟨gb146, 2, none⟩ = some (.int .i64 0) := (blk_cell BK146.out 2).trans rfl; have hcz21_3 : w20.cell? ⟨gb146, 3, none⟩ = some (.int .i64 0) := (blk_cell BK146.out 3).trans rfl; have hcz21_4 : w20.cell? ⟨gb146, 4, none⟩ = some (.int .i64 0) := (blk_cell BK146.out 4).trans rfl; have hcz21_5 : w20.cell? ⟨gb146, 5, none⟩ = some (.int .i64 0) := (blk_cell BK146.out 5).trans rfl; have hcz21_6 : w20.cell? ⟨gb146, 6, none⟩ = some (.int .i64 0) := (blk_cell BK146.out 6).trans rfl; have hcz21_7 : w20.cell? ⟨gb146, 7, none⟩ = some (.int .i64 0) := (blk_cell BK146.out 7).trans rfl; have hfz21_0 := blk_frozen BK146.out 0; have hfz21_1 := blk_frozen BK146.out 1; have hfz21_2 := blk_frozen BK146.out 2; have hfz21_3 := blk_frozen BK146.out 3; have hfz21_4 := blk_frozen BK146.out 4; have hfz21_5 := blk_frozen BK146.out 5; have hfz21_6 := blk_frozen BK146.out 6; have hfz21_7 := blk_frozen BK146.out 7) | ((with_reducible refine gate_store (t := 37) (p := 6) rfl ?_); (try (rw [drewN_self w20]; generalize hq_ : World.drewN w20 _ = w20; have n0_ := Aside0.mk (blk_at hq_ BK145.out); have n1_ := Aside0.mk (blk_at hq_ BK146.out); have n2_ := Aside0.mk (below_at hq_ HB.out); clear hq_ BK145 BK146 HB; have BK145 := n0_; have BK146 := n1_; have HB := n2_; clear n0_ n1_ n2_)); refine store_event (t := 37) (p := 6) (v := ?vo_w22) (w1 := ((((((((w20.setCell ⟨gb146, 0, none⟩ (.int .i64 t137)).setCell ⟨gb146, 1, none⟩ (.int .i64 t138)).setCell ⟨gb146, 2, none⟩ (.int .i64 t139)).setCell ⟨gb146, 3, none⟩ (.int .i64 t140)).setCell ⟨gb146, 4, none⟩ (.int .i64 t141)).setCell ⟨gb146, 5, none⟩ (.int .i64 t142)).setCell ⟨gb146, 6, none⟩ (.int .i64 t143)).setCell ⟨gb146, 7, none⟩ (.int .i64 t144))) ?hg ?ho ?hn ?hr ?_; (case ho => rfl); (case hg => rfl); (case hn => rfl); (case hr => first | (go_simp; done) | (go_simp; rfl)); intro w22 hw; have n0_ : Aside0 (w22.heap[gb145]? = some (.cells #[.int .i64 t129, .int .i64 t130, .int .i64 t131, .int .i64 t132, .int .i64 t133, .int .i64 t134, .int .i64 t135, .int .i64 t136] 37 (0, 0))) := ⟨(by rw [hw]; exact (by (with_reducible repeat (first | refine blk_drewN ?_ _ | refine blk_drew ?_ | refine blk_alloc ?_ _)); refine blk_far ?_ NB145_146.out _; (with_reducible repeat (first | refine blk_drewN ?_ _ | refine blk_drew ?_ | refine blk_alloc ?_ _)); refine blk_far ?_ NB145_146.out _; (with_reducible repeat (first | refine blk_drewN ?_ _ | refine blk_drew ?_ | refine blk_alloc ?_ _)); refine blk_far ?_ NB145_146.out _; (with_reducible repeat (first | refine blk_drewN ?_ _ | refine blk_drew ?_ | refine blk_alloc ?_ _)); refine blk_far ?_ NB145_146.out _; (with_reducible repeat (first | refine blk_drewN ?_ _ | refine blk_drew ?_ | refine blk_alloc ?_ _)); refine blk_far ?_ NB145_146.out _; (with_reducible repeat (first | refine blk_drewN ?_ _ | refine blk_drew ?_ | refine blk_alloc ?_ _)); refine blk_far ?_ NB145_146.out _; (with_reducible repeat (first | refine blk_drewN ?_ _ | refine blk_drew ?_ | refine blk_alloc ?_ _)); refine blk_far ?_ NB145_146.out _; (with_reducible repeat (first | refine blk_drewN ?_ _ | refine blk_drew ?_ | refine blk_alloc ?_ _)); refine blk_far ?_ NB145_146.out _; (with_reducible repeat (first | refine blk_drewN ?_ _ | refine blk_drew ?_ | refine blk_alloc ?_ _)); exact BK145.out))⟩; have n1_ : Aside0 (w22.heap[gb146]? = some (.cells #[.int .i64 t137, .int .i64 t138, .int .i64 t139, .int .i64 t140, .int .i64 t141, .int .i64 t142, .int .i64 t143, .int .i64 t144] 37 (0, 0))) := ⟨(by rw [hw]; exact (by (with_reducible repeat (first | refine blk_drewN ?_ _ | refine blk_drew ?_ | refine blk_alloc ?_ _)); refine blk_put (cs := #[.int .i64 t137, .int .i64 t138, .int .i64 t139, .int .i64 t140, .int .i64 t141, .int .i64 t142, .int .i64 t143, .int .i64 0]) ?_ 7 _ (by first | rfl | (simp; done)); (with_reducible repeat (first | refine blk_drewN ?_ _ | refine blk_drew ?_ | refine blk_alloc ?_ _)); refine blk_put (cs := #[.int .i64 t137, .int .i64 t138, .int .i64 t139, .int .i64 t140, .int .i64 t141, .int .i64 t142, .int .i64 0, .int .i64 0]) ?_ 6 _ (by first | rfl | (simp; done)); (with_reducible repeat (first | refine blk_drewN ?_ _ | refine blk_drew ?_ | refine blk_alloc ?_ _)); refine blk_put (cs := #[.int .i64 t137, .int .i64 t138, .int .i64 t139, .int .i64 t140, .int .i64 t141, .int .i64 0, .int .i64 0, .int .i64 0]) ?_ 5 _ (by first | rfl | (simp; done)); (with_reducible repeat (first | refine blk_drewN ?_ _ | refine blk_drew ?_ | refine blk_alloc ?_ _)); refine blk_put (cs := #[.int .i64 t137, .int .i64 t138, .int .i64 t139, .int .i64 t140, .int .i64 0, .int .i64 0, .int .i64 0, .int .i64 0]) ?_ 4 _ (by first | rfl | (simp; done)); (with_reducible repeat (first | refine blk_drewN ?_ _ | refine blk_drew ?_ | refine blk_alloc ?_ _)); refine blk_put (cs := #[.int .i64 t137, .int .i64 t138, .int .i64 t139, .int .i64 0, .int .i64 0, .int .i64 0, .int .i64 0, .int .i64 0]) ?_ 3 _ (by first | rfl | (simp; done)); (with_reducible repeat (first | refine blk_drewN ?_ _ | refine blk_drew ?_ | refine blk_alloc ?_ _)); refine blk_put (cs := #[.int .i64 t137, .int .i64 t138, .int .i64 0, .int .i64 0, .int .i64 0, .int .i64 0, .int .i64 0, .int .i64 0]) ?_ 2 _ (by first | rfl | (simp; done)); (with_reducible repeat (first | refine blk_drewN ?_ _ | refine blk_drew ?_ | refine blk_alloc ?_ _)); refine blk_put (cs := #[.int .i64 t137, .int .i64 0, .int .i64 0, .int .i64 0, .int .i64 0, .int .i64 0, .int .i64 0, .int .i64 0]) ?_ 1 _ (by first | rfl | (simp; done)); (with_reducible repeat (first | refine blk_drewN ?_ _ | refine blk_drew ?_ | refine blk_alloc ?_ _)); refine blk_put (cs := #[.int .i64 0, .int .i64 0, .int .i64 0, .int .i64 0, .int .i64 0, .int .i64 0, .int .i64 0, .int .i64 0]) ?_ 0 _ (by first | rfl | (simp; done)); (with_reducible repeat (first | refine blk_drewN ?_ _ | refine blk_drew ?_ | refine blk_alloc ?_ _)); exact BK146.out))⟩; have n2_ : Aside0 (Below w.heap.size w w22) := ⟨(by rw [hw]; exact (by repeat (first | (with_reducible first | exact HB.out | apply below_alloc | apply pw_below_drewN | apply below_drew1 | refine below_set ?_ GE145.out | refine below_set ?_ GE146.out) | exact HB.out)))⟩; clear hw; clear BK145; clear BK146; clear HB; have BK145 := n0_; have BK146 := n1_; have HB := n2_; clear n0_ n1_ n2_; have hcz23_0 : w22.cell? ⟨gb145, 0, none⟩ = some (.int .i64 t129) := (blk_cell BK145.out 0).trans rfl; have hcz23_1 : w22.cell? ⟨gb145, 1, none⟩ = some (.int .i64 t130) := (blk_cell BK145.out 1).trans rfl; have hcz23_2 : w22.cell? ⟨gb145, 2, none⟩ = some (.int .i64 t131) := (blk_cell BK145.out 2).trans rfl; have hcz23_3 : w22.cell? ⟨gb145, 3, none⟩ = some (.int .i64 t132) := (blk_cell BK145.out 3).trans rfl; have hcz23_4 : w22.cell? ⟨gb145, 4, none⟩ = some (.int .i64 t133) := (blk_cell BK145.out 4).trans rfl; have hcz23_5 : w22.cell? ⟨gb145, 5, none⟩ = some (.int .i64 t134) := (blk_cell BK145.out 5).trans rfl; have hcz23_6 : w22.cell? ⟨gb145, 6, none⟩ = some (.int .i64 t135) := (blk_cell BK145.out 6).trans rfl; have hcz23_7 : w22.cell? ⟨gb145, 7, none⟩ = some (.int .i64 t136) := (blk_cell BK145.out 7).trans rfl; have hfz23_0 := blk_frozen BK145.out 0; have hfz23_1 := blk_frozen BK145.out 1; have hfz23_2 := blk_frozen BK145.out 2; have hfz23_3 := blk_frozen BK145.out 3; have hfz23_4 := blk_frozen BK145.out 4; have hfz23_5 := blk_frozen BK145.out 5; have hfz23_6 := blk_frozen BK145.out 6; have hfz23_7 := blk_frozen BK145.out 7; have hcz24_0 : w22.cell? ⟨gb146, 0, none⟩ = some (.int .i64 t137) := (blk_cell BK146.out 0).trans rfl; have hcz24_1 : w22.cell? ⟨gb146, 1, none⟩ = some (.int .i64 t138) := (blk_cell BK146.out 1).trans rfl; have hcz24_2 : w22.cell? ⟨gb146, 2, none⟩ = some (.int .i64 t139) := (blk_cell BK146.out 2).trans rfl; have hcz24_3 : w22.cell? ⟨gb146, 3, none⟩ = some (.int .i64 t140) := (blk_cell BK146.out 3).trans rfl; have hcz24_4 : w22.cell? ⟨gb146, 4, none⟩ = some (.int .i64 t141) := (blk_cell BK146.out 4).trans rfl; have hcz24_5 : w22.cell? ⟨gb146, 5, none⟩ = some (.int .i64 t142) := (blk_cell BK146.out 5).trans rfl; have hcz24_6 : w22.cell? ⟨gb146, 6, none⟩ = some (.int .i64 t143) := (blk_cell BK146.out 6).trans rfl; have hcz24_7 : w22.cell? ⟨gb146, 7, none⟩ = some (.int .i64 t144) := (blk_cell BK146.out 7).trans rfl; have hfz24_0 := blk_frozen BK146.out 0; have hfz24_1 := blk_frozen BK146.out 1; have hfz24_2 := blk_frozen BK146.out 2; have hfz24_3 := blk_frozen BK146.out 3; have hfz24_4 := blk_frozen BK146.out 4; have hfz24_5 := blk_frozen BK146.out 5; have hfz24_6 := blk_frozen BK146.out 6; have hfz24_7 := blk_frozen BK146.out 7)); try go_wp2_with (first | (go_at_call 25; (with_reducible refine (date_Of.calls kj2 a0 a1 t129 t130 t131 t132 t133 t134 t135 t136 _ A11.out).mono ?_); rintro e w14 ⟨rfl, hb⟩; have n0_ := Aside0.mk (below_step (by repeat (first | (with_reducible first | exact HB.out | apply below_alloc | apply pw_below_drewN | apply below_drew1) | exact HB.out)) hb); clear HB; have HB := n0_; clear n0_; (try clear hb); (try clear hb2); (try clear hk); (try clear hi)) | (go_at_call 25; (with_reducible refine (date_Of.calls kj2 (wrap64 (a0 + 1)) a1 t137 t138 t139 t140 t141 t142 t143 t144 _ A12.out).mono ?_); rintro e w15 ⟨rfl, hb⟩; have n0_ := Aside0.mk (below_step (by repeat (first | (with_reducible first | exact HB.out | apply below_alloc | apply pw_below_drewN | apply below_drew1) | exact HB.out)) hb); clear HB; have HB := n0_; clear n0_; (try clear hb); (try clear hb2); (try clear hk); (try clear hi)) | ((with_reducible refine gate_dst (N := 5) rfl ?_); refine box_event ?hg (N := 5) ?hd (cs := #[.int .i64 0, .int .i64 0, .int .i64 0, .int .i64 0, .int .i64 0, .int .i64 0, .int .i64 0, .int .i64 0]) (t := 37) ?hr ?_; (case hd => rfl); (case hg => rfl); (case hr => first | (go_simp; done) | (go_simp; rfl)); intro gb145 hg w16 hbox hb; have n0_ := Aside0.mk (below_step (by repeat (first | (with_reducible first | exact HB.out | apply below_alloc | apply pw_below_drewN | apply below_drew1) | exact HB.out)) hb); have n1_ := Aside0.mk (hbox); have n2_ := Aside0.mk ((by rw [hg]; exact (below_size (by repeat (first | (with_reducible first | exact HB.out | apply below_alloc | apply pw_below_drewN | apply below_drew1) | exact HB.out))) : w.heap.size ≤ gb145)); have n3_ := Aside0.mk ((by rw [hg]; exact (below_size (by repeat (first | (with_reducible first | exact HB.out | apply below_alloc | apply pw_below_drewN | apply below_drew1) | exact HB.out))) : w.heap.size ≤ gb145)); clear HB; have HB := n0_; have BK145 := n1_; have GW145 := n2_; have GE145 := n3_; clear n0_ n1_ n2_ n3_; clear hb hbox hg) | ((with_reducible refine gate_dst (N := 6) rfl ?_); refine box_event ?hg (N := 6) ?hd (cs := #[.int .i64 0, .int .i64 0, .int .i64 0, .int .i64 0, .int .i64 0, .int .i64 0, .int .i64 0, .int .i64 0]) (t := 37) ?hr ?_; (case hd => rfl); (case hg => rfl); (case hr => first | (go_simp; done) | (go_simp; rfl)); intro gb146 hg w17 hbox hb; have n0_ := Aside0.mk (blk_below (g := gb145) (o := .cells #[.int .i64 0, .int .i64 0, .int .i64 0, .int .i64 0, .int .i64 0, .int .i64 0, .int .i64 0, .int .i64 0] 37 (0, 0)) (by (with_reducible repeat (first | refine blk_drewN ?_ _ | refine blk_drew ?_ | refine blk_alloc ?_ _)); exact BK145.out) hb); have n1_ := Aside0.mk (below_step (by repeat (first | (with_reducible first | exact HB.out | apply below_alloc | apply pw_below_drewN | apply below_drew1 | refine below_set ?_ GE145.out) | exact HB.out)) hb); have n2_ := Aside0.mk (hbox); have n3_ := Aside0.mk ((by rw [hg]; exact (below_size (by repeat (first | (with_reducible first | exact HB.out | apply below_alloc | apply pw_below_drewN | apply below_drew1 | refine below_set ?_ GE145.out) | exact HB.out))) : w.heap.size ≤ gb146)); have n4_ := Aside0.mk ((by rw [hg]; exact (below_size (by repeat (first | (with_reducible first | exact HB.out | apply below_alloc | apply pw_below_drewN | apply below_drew1 | refine below_set ?_ GE145.out) | exact HB.out))) : w.heap.size ≤ gb146)); have n5_ := Aside0.mk ((by rw [hg]; exact Nat.ne_of_lt (blk_lt (g := gb145) (o := .cells #[.int .i64 0, .int .i64 0, .int .i64 0, .int .i64 0, .int .i64 0, .int .i64 0, .int .i64 0, .int .i64 0] 37 (0, 0)) (by (with_reducible repeat (first | refine blk_drewN ?_ _ | refine blk_drew ?_ | refine blk_alloc ?_ _)); exact BK145.out)) : gb145 ≠ gb146)); have n6_ := Aside0.mk ((by rw [hg]; exact Nat.ne_of_gt (blk_lt (g := gb145) (o := .cells #[.int .i64 0, .int .i64 0, .int .i64 0, .int .i64 0, .int .i64 0, .int .i64 0, .int .i64 0, .int .i64 0] 37 (0, 0)) (by (with_reducible repeat (first | refine blk_drewN ?_ _ | refine blk_drew ?_ | refine blk_alloc ?_ _)); exact BK145.out)) : gb146 ≠ gb145)); clear BK145; clear HB; have BK145 := n0_; have HB := n1_; have BK146 := n2_; have GW146 := n3_; have GE146 := n4_; have NB145_146 := n5_; have NB146_145 := n6_; clear n0_ n1_ n2_ n3_ n4_ n5_ n6_; clear hb hbox hg; have hnb18 := NB145_146.out; have hnc18 := NB146_145.out; have hcz19_0 : w17.cell? ⟨gb145, 0, none⟩ = some (.int .i64 0) := (blk_cell BK145.out 0).trans rfl; have hcz19_1 : w17.cell? ⟨gb145, 1, none⟩ = some (.int .i64 0) := (blk_cell BK145.out 1).trans rfl; have hcz19_2 : w17.cell? ⟨gb145, 2, none⟩ = some (.int .i64 0) := (blk_cell BK145.out 2).trans rfl; have hcz19_3 : w17.cell? ⟨gb145, 3, none⟩ = some (.int .i64 0) := (blk_cell BK145.out 3).trans rfl; have hcz19_4 : w17.cell? ⟨gb145, 4, none⟩ = some (.int .i64 0) := (blk_cell BK145.out 4).trans rfl; have hcz19_5 : w17.cell? ⟨gb145, 5, none⟩ = some (.int .i64 0) := (blk_cell BK145.out 5).trans rfl; have hcz19_6 : w17.cell? ⟨gb145, 6, none⟩ = some (.int .i64 0) := (blk_cell BK145.out 6).trans rfl; have hcz19_7 : w17.cell? ⟨gb145, 7, none⟩ = some (.int .i64 0) := (blk_cell BK145.out 7).trans rfl; have hfz19_0 := blk_frozen BK145.out 0; have hfz19_1 := blk_frozen BK145.out 1; have hfz19_2 := blk_frozen BK145.out 2; have hfz19_3 := blk_frozen BK145.out 3; have hfz19_4 := blk_frozen BK145.out 4; have hfz19_5 := blk_frozen BK145.out 5; have hfz19_6 := blk_frozen BK145.out 6; have hfz19_7 := blk_frozen BK145.out 7) | ((with_reducible refine gate_store (t := 37) (p := 5) rfl ?_); (try (rw [drewN_self w17]; generalize hq_ : World.drewN w17 _ = w17; have n0_ := Aside0.mk (blk_at hq_ BK145.out); have n1_ := Aside0.mk (blk_at hq_ BK146.out); have n2_ := Aside0.mk (below_at hq_ HB.out); clear hq_ BK145 BK146 HB; have BK145 := n0_; have BK146 := n1_; have HB := n2_; clear n0_ n1_ n2_)); refine store_event (t := 37) (p := 5) (v := ?vo_w20) (w1 := ((((((((w17.setCell ⟨gb145, 0, none⟩ (.int .i64 t129)).setCell ⟨gb145, 1, none⟩ (.int .i64 t130)).setCell ⟨gb145, 2, none⟩ (.int .i64 t131)).setCell ⟨gb145, 3, none⟩ (.int .i64 t132)).setCell ⟨gb145, 4, none⟩ (.int .i64 t133)).setCell ⟨gb145, 5, none⟩ (.int .i64 t134)).setCell ⟨gb145, 6, none⟩ (.int .i64 t135)).setCell ⟨gb145, 7, none⟩ (.int .i64 t136))) ?hg ?ho ?hn ?hr ?_; (case ho => rfl); (case hg => rfl); (case hn => rfl); (case hr => first | (go_simp; done) | (go_simp; rfl)); intro w20 hw; have n0_ : Aside0 (w20.heap[gb145]? = some (.cells #[.int .i64 t129, .int .i64 t130, .int .i64 t131, .int .i64 t132, .int .i64 t133, .int .i64 t134, .int .i64 t135, .int .i64 t136] 37 (0, 0))) := ⟨(by rw [hw]; exact (by (with_reducible repeat (first | refine blk_drewN ?_ _ | refine blk_drew ?_ | refine blk_alloc ?_ _)); refine blk_put (cs := #[.int .i64 t129, .int .i64 t130, .int .i64 t131, .int .i64 t132, .int .i64 t133, .int .i64 t134, .int .i64 t135, .int .i64 0]) ?_ 7 _ (by first | rfl | (simp; done)); (with_reducible repeat (first | refine blk_drewN ?_ _ | refine blk_drew ?_ | refine blk_alloc ?_ _)); refine blk_put (cs := #[.int .i64 t129, .int .i64 t130, .int .i64 t131, .int .i64 t132, .int .i64 t133, .int .i64 t134, .int .i64 0, .int .i64 0]) ?_ 6 _ (by first | rfl | (simp; done)); (with_reducible repeat (first | refine blk_drewN ?_ _ | refine blk_drew ?_ | refine blk_alloc ?_ _)); refine blk_put (cs := #[.int .i64 t129, .int .i64 t130, .int .i64 t131, .int .i64 t132, .int .i64 t133, .int .i64 0, .int .i64 0, .int .i64 0]) ?_ 5 _ (by first | rfl | (simp; done)); (with_reducible repeat (first | refine blk_drewN ?_ _ | refine blk_drew ?_ | refine blk_alloc ?_ _)); refine blk_put (cs := #[.int .i64 t129, .int .i64 t130, .int .i64 t131, .int .i64 t132, .int .i64 0, .int .i64 0, .int .i64 0, .int .i64 0]) ?_ 4 _ (by first | rfl | (simp; done)); (with_reducible repeat (first | refine blk_drewN ?_ _ | refine blk_drew ?_ | refine blk_alloc ?_ _)); refine blk_put (cs := #[.int .i64 t129, .int .i64 t130, .int .i64 t131, .int .i64 0, .int .i64 0, .int .i64 0, .int .i64 0, .int .i64 0]) ?_ 3 _ (by first | rfl | (simp; done)); (with_reducible repeat (first | refine blk_drewN ?_ _ | refine blk_drew ?_ | refine blk_alloc ?_ _)); refine blk_put (cs := #[.int .i64 t129, .int .i64 t130, .int .i64 0, .int .i64 0, .int .i64 0, .int .i64 0, .int .i64 0, .int .i64 0]) ?_ 2 _ (by first | rfl | (simp; done)); (with_reducible repeat (first | refine blk_drewN ?_ _ | refine blk_drew ?_ | refine blk_alloc ?_ _)); refine blk_put (cs := #[.int .i64 t129, .int .i64 0, .int .i64 0, .int .i64 0, .int .i64 0, .int .i64 0, .int .i64 0, .int .i64 0]) ?_ 1 _ (by first | rfl | (simp; done)); (with_reducible repeat (first | refine blk_drewN ?_ _ | refine blk_drew ?_ | refine blk_alloc ?_ _)); refine blk_put (cs := #[.int .i64 0, .int .i64 0, .int .i64 0, .int .i64 0, .int .i64 0, .int .i64 0, .int .i64 0, .int .i64 0]) ?_ 0 _ (by first | rfl | (simp; done)); (with_reducible repeat (first | refine blk_drewN ?_ _ | refine blk_drew ?_ | refine blk_alloc ?_ _)); exact BK145.out))⟩; have n1_ : Aside0 (w20.heap[gb146]? = some (.cells #[.int .i64 0, .int .i64 0, .int .i64 0, .int .i64 0, .int .i64 0, .int .i64 0, .int .i64 0, .int .i64 0] 37 (0, 0))) := ⟨(by rw [hw]; exact (by (with_reducible repeat (first | refine blk_drewN ?_ _ | refine blk_drew ?_ | refine blk_alloc ?_ _)); refine blk_far ?_ NB146_145.out _; (with_reducible repeat (first | refine blk_drewN ?_ _ | refine blk_drew ?_ | refine blk_alloc ?_ _)); refine blk_far ?_ NB146_145.out _; (with_reducible repeat (first | refine blk_drewN ?_ _ | refine blk_drew ?_ | refine blk_alloc ?_ _)); refine blk_far ?_ NB146_145.out _; (with_reducible repeat (first | refine blk_drewN ?_ _ | refine blk_drew ?_ | refine blk_alloc ?_ _)); refine blk_far ?_ NB146_145.out _; (with_reducible repeat (first | refine blk_drewN ?_ _ | refine blk_drew ?_ | refine blk_alloc ?_ _)); refine blk_far ?_ NB146_145.out _; (with_reducible repeat (first | refine blk_drewN ?_ _ | refine blk_drew ?_ | refine blk_alloc ?_ _)); refine blk_far ?_ NB146_145.out _; (with_reducible repeat (first | refine blk_drewN ?_ _ | refine blk_drew ?_ | refine blk_alloc ?_ _)); refine blk_far ?_ NB146_145.out _; (with_reducible repeat (first | refine blk_drewN ?_ _ | refine blk_drew ?_ | refine blk_alloc ?_ _)); refine blk_far ?_ NB146_145.out _; (with_reducible repeat (first | refine blk_drewN ?_ _ | refine blk_drew ?_ | refine blk_alloc ?_ _)); exact BK146.out))⟩; have n2_ : Aside0 (Below w.heap.size w w20) := ⟨(by rw [hw]; exact (by repeat (first | (with_reducible first | exact HB.out | apply below_alloc | apply pw_below_drewN | apply below_drew1 | refine below_set ?_ GE145.out | refine below_set ?_ GE146.out) | exact HB.out)))⟩; clear hw; clear BK145; clear BK146; clear HB; have BK145 := n0_; have BK146 := n1_; have HB := n2_; clear n0_ n1_ n2_; have hcz21_0 : w20.cell? ⟨gb146, 0, none⟩ = some (.int .i64 0) := (blk_cell BK146.out 0).trans rfl; have hcz21_1 : w20.cell? ⟨gb146, 1, none⟩ = some (.int .i64 0) := (blk_cell BK146.out 1).trans rfl; have hcz21_2 : w20.cell? ⟨gb146, 2, none⟩ = some (.int .i64 0) := (blk_cell BK146.out 2).trans rfl; have hcz21_3 : w20.cell? ⟨gb146, 3, none⟩ = some (.int .i64 0) := (blk_cell BK146.out 3).trans rfl; have hcz21_4 : w20.cell? ⟨gb146, 4, none⟩ = some (.int .i64 0) := (blk_cell BK146.out 4).trans rfl; have hcz21_5 : w20.cell? ⟨gb146, 5, none⟩ = some (.int .i64 0) := (blk_cell BK146.out 5).trans rfl; have hcz21_6 : w20.cell? ⟨gb146, 6, none⟩ = some (.int .i64 0) := (blk_cell BK146.out 6).trans rfl; have hcz21_7 : w20.cell? ⟨gb146, 7, none⟩ = some (.int .i64 0) := (blk_cell BK146.out 7).trans rfl; have hfz21_0 := blk_frozen BK146.out 0; have hfz21_1 := blk_frozen BK146.out 1; have hfz21_2 := blk_frozen BK146.out 2; have hfz21_3 := blk_frozen BK146.out 3; have hfz21_4 := blk_frozen BK146.out 4; have hfz21_5 := blk_frozen BK146.out 5; have hfz21_6 := blk_frozen BK146.out 6; have hfz21_7 := blk_frozen BK146.out 7) | ((with_reducible refine gate_store (t := 37) (p := 6) rfl ?_); (try (rw [drewN_self w20]; generalize hq_ : World.drewN w20 _ = w20; have n0_ := Aside0.mk (blk_at hq_ BK145.out); have n1_ := Aside0.mk (blk_at hq_ BK146.out); have n2_ := Aside0.mk (below_at hq_ HB.out); clear hq_ BK145 BK146 HB; have BK145 := n0_; have BK146 := n1_; have HB := n2_; clear n0_ n1_ n2_)); refine store_event (t := 37) (p := 6) (v := ?vo_w22) (w1 := ((((((((w20.setCell ⟨gb146, 0, none⟩ (.int .i64 t137)).setCell ⟨gb146, 1, none⟩ (.int .i64 t138)).setCell ⟨gb146, 2, none⟩ (.int .i64 t139)).setCell ⟨gb146, 3, none⟩ (.int .i64 t140)).setCell ⟨gb146, 4, none⟩ (.int .i64 t141)).setCell ⟨gb146, 5, none⟩ (.int .i64 t142)).setCell ⟨gb146, 6, none⟩ (.int .i64 t143)).setCell ⟨gb146, 7, none⟩ (.int .i64 t144))) ?hg ?ho ?hn ?hr ?_; (case ho => rfl); (case hg => rfl); (case hn => rfl); (case hr => first | (go_simp; done) | (go_simp; rfl)); intro w22 hw; have n0_ : Aside0 (w22.heap[gb145]? = some (.cells #[.int .i64 t129, .int .i64 t130, .int .i64 t131, .int .i64 t132, .int .i64 t133, .int .i64 t134, .int .i64 t135, .int .i64 t136] 37 (0, 0))) := ⟨(by rw [hw]; exact (by (with_reducible repeat (first | refine blk_drewN ?_ _ | refine blk_drew ?_ | refine blk_alloc ?_ _)); refine blk_far ?_ NB145_146.out _; (with_reducible repeat (first | refine blk_drewN ?_ _ | refine blk_drew ?_ | refine blk_alloc ?_ _)); refine blk_far ?_ NB145_146.out _; (with_reducible repeat (first | refine blk_drewN ?_ _ | refine blk_drew ?_ | refine blk_alloc ?_ _)); refine blk_far ?_ NB145_146.out _; (with_reducible repeat (first | refine blk_drewN ?_ _ | refine blk_drew ?_ | refine blk_alloc ?_ _)); refine blk_far ?_ NB145_146.out _; (with_reducible repeat (first | refine blk_drewN ?_ _ | refine blk_drew ?_ | refine blk_alloc ?_ _)); refine blk_far ?_ NB145_146.out _; (with_reducible repeat (first | refine blk_drewN ?_ _ | refine blk_drew ?_ | refine blk_alloc ?_ _)); refine blk_far ?_ NB145_146.out _; (with_reducible repeat (first | refine blk_drewN ?_ _ | refine blk_drew ?_ | refine blk_alloc ?_ _)); refine blk_far ?_ NB145_146.out _; (with_reducible repeat (first | refine blk_drewN ?_ _ | refine blk_drew ?_ | refine blk_alloc ?_ _)); refine blk_far ?_ NB145_146.out _; (with_reducible repeat (first | refine blk_drewN ?_ _ | refine blk_drew ?_ | refine blk_alloc ?_ _)); exact BK145.out))⟩; have n1_ : Aside0 (w22.heap[gb146]? = some (.cells #[.int .i64 t137, .int .i64 t138, .int .i64 t139, .int .i64 t140, .int .i64 t141, .int .i64 t142, .int .i64 t143, .int .i64 t144] 37 (0, 0))) := ⟨(by rw [hw]; exact (by (with_reducible repeat (first | refine blk_drewN ?_ _ | refine blk_drew ?_ | refine blk_alloc ?_ _)); refine blk_put (cs := #[.int .i64 t137, .int .i64 t138, .int .i64 t139, .int .i64 t140, .int .i64 t141, .int .i64 t142, .int .i64 t143, .int .i64 0]) ?_ 7 _ (by first | rfl | (simp; done)); (with_reducible repeat (first | refine blk_drewN ?_ _ | refine blk_drew ?_ | refine blk_alloc ?_ _)); refine blk_put (cs := #[.int .i64 t137, .int .i64 t138, .int .i64 t139, .int .i64 t140, .int .i64 t141, .int .i64 t142, .int .i64 0, .int .i64 0]) ?_ 6 _ (by first | rfl | (simp; done)); (with_reducible repeat (first | refine blk_drewN ?_ _ | refine blk_drew ?_ | refine blk_alloc ?_ _)); refine blk_put (cs := #[.int .i64 t137, .int .i64 t138, .int .i64 t139, .int .i64 t140, .int .i64 t141, .int .i64 0, .int .i64 0, .int .i64 0]) ?_ 5 _ (by first | rfl | (simp; done)); (with_reducible repeat (first | refine blk_drewN ?_ _ | refine blk_drew ?_ | refine blk_alloc ?_ _)); refine blk_put (cs := #[.int .i64 t137, .int .i64 t138, .int .i64 t139, .int .i64 t140, .int .i64 0, .int .i64 0, .int .i64 0, .int .i64 0]) ?_ 4 _ (by first | rfl | (simp; done)); (with_reducible repeat (first | refine blk_drewN ?_ _ | refine blk_drew ?_ | refine blk_alloc ?_ _)); refine blk_put (cs := #[.int .i64 t137, .int .i64 t138, .int .i64 t139, .int .i64 0, .int .i64 0, .int .i64 0, .int .i64 0, .int .i64 0]) ?_ 3 _ (by first | rfl | (simp; done)); (with_reducible repeat (first | refine blk_drewN ?_ _ | refine blk_drew ?_ | refine blk_alloc ?_ _)); refine blk_put (cs := #[.int .i64 t137, .int .i64 t138, .int .i64 0, .int .i64 0, .int .i64 0, .int .i64 0, .int .i64 0, .int .i64 0]) ?_ 2 _ (by first | rfl | (simp; done)); (with_reducible repeat (first | refine blk_drewN ?_ _ | refine blk_drew ?_ | refine blk_alloc ?_ _)); refine blk_put (cs := #[.int .i64 t137, .int .i64 0, .int .i64 0, .int .i64 0, .int .i64 0, .int .i64 0, .int .i64 0, .int .i64 0]) ?_ 1 _ (by first | rfl | (simp; done)); (with_reducible repeat (first | refine blk_drewN ?_ _ | refine blk_drew ?_ | refine blk_alloc ?_ _)); refine blk_put (cs := #[.int .i64 0, .int .i64 0, .int .i64 0, .int .i64 0, .int .i64 0, .int .i64 0, .int .i64 0, .int .i64 0]) ?_ 0 _ (by first | rfl | (simp; done)); (with_reducible repeat (first | refine blk_drewN ?_ _ | refine blk_drew ?_ | refine blk_alloc ?_ _)); exact BK146.out))⟩; have n2_ : Aside0 (Below w.heap.size w w22) := ⟨(by rw [hw]; exact (by repeat (first | (with_reducible first | exact HB.out | apply below_alloc | apply pw_below_drewN | apply below_drew1 | refine below_set ?_ GE145.out | refine below_set ?_ GE146.out) | exact HB.out)))⟩; clear hw; clear BK145; clear BK146; clear HB; have BK145 := n0_; have BK146 := n1_; have HB := n2_; clear n0_ n1_ n2_; have hcz23_0 : w22.cell? ⟨gb145, 0, none⟩ = some (.int .i64 t129) := (blk_cell BK145.out 0).trans rfl; have hcz23_1 : w22.cell? ⟨gb145, 1, none⟩ = some (.int .i64 t130) := (blk_cell BK145.out 1).trans rfl; have hcz23_2 : w22.cell? ⟨gb145, 2, none⟩ = some (.int .i64 t131) := (blk_cell BK145.out 2).trans rfl; have hcz23_3 : w22.cell? ⟨gb145, 3, none⟩ = some (.int .i64 t132) := (blk_cell BK145.out 3).trans rfl; have hcz23_4 : w22.cell? ⟨gb145, 4, none⟩ = some (.int .i64 t133) := (blk_cell BK145.out 4).trans rfl; have hcz23_5 : w22.cell? ⟨gb145, 5, none⟩ = some (.int .i64 t134) := (blk_cell BK145.out 5).trans rfl; have hcz23_6 : w22.cell? ⟨gb145, 6, none⟩ = some (.int .i64 t135) := (blk_cell BK145.out 6).trans rfl; have hcz23_7 : w22.cell? ⟨gb145, 7, none⟩ = some (.int .i64 t136) := (blk_cell BK145.out 7).trans rfl; have hfz23_0 := blk_frozen BK145.out 0; have hfz23_1 := blk_frozen BK145.out 1; have hfz23_2 := blk_frozen BK145.out 2; have hfz23_3 := blk_frozen BK145.out 3; have hfz23_4 := blk_frozen BK145.out 4; have hfz23_5 := blk_frozen BK145.out 5; have hfz23_6 := blk_frozen BK145.out 6; have hfz23_7 := blk_frozen BK145.out 7; have hcz24_0 : w22.cell? ⟨gb146, 0, none⟩ = some (.int .i64 t137) := (blk_cell BK146.out 0).trans rfl; have hcz24_1 : w22.cell? ⟨gb146, 1, none⟩ = some (.int .i64 t138) := (blk_cell BK146.out 1).trans rfl; have hcz24_2 : w22.cell? ⟨gb146, 2, none⟩ = some (.int .i64 t139) := (blk_cell BK146.out 2).trans rfl; have hcz24_3 : w22.cell? ⟨gb146, 3, none⟩ = some (.int .i64 t140) := (blk_cell BK146.out 3).trans rfl; have hcz24_4 : w22.cell? ⟨gb146, 4, none⟩ = some (.int .i64 t141) := (blk_cell BK146.out 4).trans rfl; have hcz24_5 : w22.cell? ⟨gb146, 5, none⟩ = some (.int .i64 t142) := (blk_cell BK146.out 5).trans rfl; have hcz24_6 : w22.cell? ⟨gb146, 6, none⟩ = some (.int .i64 t143) := (blk_cell BK146.out 6).trans rfl; have hcz24_7 : w22.cell? ⟨gb146, 7, none⟩ = some (.int .i64 t144) := (blk_cell BK146.out 7).trans rfl; have hfz24_0 := blk_frozen BK146.out 0; have hfz24_1 := blk_frozen BK146.out 1; have hfz24_2 := blk_frozen BK146.out 2; have hfz24_3 := blk_frozen BK146.out 3; have hfz24_4 := blk_frozen BK146.out 4; have hfz24_5 := blk_frozen BK146.out 5; have hfz24_6 := blk_frozen BK146.out 6; have hfz24_7 := blk_frozen BK146.out 7)))
          go_ret
          exact ⟨by first | rfl | (simp [errW_none, errW_some] <;> rfl) | (simp [*, errW_none, errW_some] <;> rfl), by repeat (first | (with_reducible first | exact HB.out | apply below_alloc | apply pw_below_drewN | apply below_drew1 | refine below_set ?_ GE145.out | refine below_set ?_ GE146.out) | exact HB.out)⟩
        · rw [if_neg c13] at H
          have c13b0 : decide (t134 < 59) = false := decide_eq_false c13
          clear c13
          have HC25 := Aside0.mk H
          clear H
          go_upto_region 7 with (first | (go_at_call 25; (with_reducible refine (date_Of.calls kj2 a0 a1 t129 t130 t131 t132 t133 t134 t135 t136 _ A11.out).mono ?_); rintro e w26 ⟨rfl, hb⟩; have n0_ := Aside0.mk (below_step (by repeat (first | (with_reducible first | exact HB.out | apply below_alloc | apply pw_below_drewN | apply below_drew1) | exact HB.out)) hb); clear HB; have HB := n0_; clear n0_; (try clear hb); (try clear hb2); (try clear hk); (try clear hi)) | (go_at_call 25; (with_reducible refine (date_Of.calls kj2 (wrap64 (a0 + 1)) a1 t137 t138 t139 t140 t141 t142 t143 t144 _ A12.out).mono ?_); rintro e w27 ⟨rfl, hb⟩; have n0_ := Aside0.mk (below_step (by repeat (first | (with_reducible first | exact HB.out | apply below_alloc | apply pw_below_drewN | apply below_drew1) | exact HB.out)) hb); clear HB; have HB := n0_; clear n0_; (try clear hb); (try clear hb2); (try clear hk); (try clear hi)) | ((with_reducible refine gate_dst (N := 5) rfl ?_); refine box_event ?hg (N := 5) ?hd (cs := #[.int .i64 0, .int .i64 0, .int .i64 0, .int .i64 0, .int .i64 0, .int .i64 0, .int .i64 0, .int .i64 0]) (t := 37) ?hr ?_; (case hd => rfl); (case hg => rfl); (case hr => first | (go_simp; done) | (go_simp; rfl)); intro gb145 hg w28 hbox hb; have n0_ := Aside0.mk (below_step (by repeat (first | (with_reducible first | exact HB.out | apply below_alloc | apply pw_below_drewN | apply below_drew1) | exact HB.out)) hb); have n1_ := Aside0.mk (hbox); have n2_ := Aside0.mk ((by rw [hg]; exact (below_size (by repeat (first | (with_reducible first | exact HB.out | apply below_alloc | apply pw_below_drewN | apply below_drew1) | exact HB.out))) : w.heap.size ≤ gb145)); have n3_ := Aside0.mk ((by rw [hg]; exact (below_size (by repeat (first | (with_reducible first | exact HB.out | apply below_alloc | apply pw_below_drewN | apply below_drew1) | exact HB.out))) : w.heap.size ≤ gb145)); clear HB; have HB := n0_; have BK145 := n1_; have GW145 := n2_; have GE145 := n3_; clear n0_ n1_ n2_ n3_; clear hb hbox hg) | ((with_reducible refine gate_dst (N := 6) rfl ?_); refine box_event ?hg (N := 6) ?hd (cs := #[.int .i64 0, .int .i64 0, .int .i64 0, .int .i64 0, .int .i64 0, .int .i64 0, .int .i64 0, .int .i64 0]) (t := 37) ?hr ?_; (case hd => rfl); (case hg => rfl); (case hr => first | (go_simp; done) | (go_simp; rfl)); intro gb146 hg w29 hbox hb; have n0_ := Aside0.mk (blk_below (g := gb145) (o := .cells #[.int .i64 0, .int .i64 0, .int .i64 0, .int .i64 0, .int .i64 0, .int .i64 0, .int .i64 0, .int .i64 0] 37 (0, 0)) (by (with_reducible repeat (first | refine blk_drewN ?_ _ | refine blk_drew ?_ | refine blk_alloc ?_ _)); exact BK145.out) hb); have n1_ := Aside0.mk (below_step (by repeat (first | (with_reducible first | exact HB.out | apply below_alloc | apply pw_below_drewN | apply below_drew1 | refine below_set ?_ GE145.out) | exact HB.out)) hb); have n2_ := Aside0.mk (hbox); have n3_ := Aside0.mk ((by rw [hg]; exact (below_size (by repeat (first | (with_reducible first | exact HB.out | apply below_alloc | apply pw_below_drewN | apply below_drew1 | refine below_set ?_ GE145.out) | exact HB.out))) : w.heap.size ≤ gb146)); have n4_ := Aside0.mk ((by rw [hg]; exact (below_size (by repeat (first | (with_reducible first | exact HB.out | apply below_alloc | apply pw_below_drewN | apply below_drew1 | refine below_set ?_ GE145.out) | exact HB.out))) : w.heap.size ≤ gb146)); have n5_ := Aside0.mk ((by rw [hg]; exact Nat.ne_of_lt (blk_lt (g := gb145) (o := .cells #[.int .i64 0, .int .i64 0, .int .i64 0, .int .i64 0, .int .i64 0, .int .i64 0, .int .i64 0, .int .i64 0] 37 (0, 0)) (by (with_reducible repeat (first | refine blk_drewN ?_ _ | refine blk_drew ?_ | refine blk_alloc ?_ _)); exact BK145.out)) : gb145 ≠ gb146)); have n6_ := Aside0.mk ((by rw [hg]; exact Nat.ne_of_gt (blk_lt (g := gb145) (o := .cells #[.int .i64 0, .int .i64 0, .int .i64 0, .int .i64 0, .int .i64 0, .int .i64 0, .int .i64 0, .int .i64 0] 37 (0, 0)) (by (with_reducible repeat (first | refine blk_drewN ?_ _ | refine blk_drew ?_ | refine blk_alloc ?_ _)); exact BK145.out)) : gb146 ≠ gb145)); clear BK145; clear HB; have BK145 := n0_; have HB := n1_; have BK146 := n2_; have GW146 := n3_; have GE146 := n4_; have NB145_146 := n5_; have NB146_145 := n6_; clear n0_ n1_ n2_ n3_ n4_ n5_ n6_; clear hb hbox hg; have hnb30 := NB145_146.out; have hnc30 := NB146_145.out; have hcz31_0 : w29.cell? ⟨gb145, 0, none⟩ = some (.int .i64 0) := (blk_cell BK145.out 0).trans rfl; have hcz31_1 : w29.cell? ⟨gb145, 1, none⟩ = some (.int .i64 0) := (blk_cell BK145.out 1).trans rfl; have hcz31_2 : w29.cell? ⟨gb145, 2, none⟩ = some (.int .i64 0) := (blk_cell BK145.out 2).trans rfl; have hcz31_3 : w29.cell? ⟨gb145, 3, none⟩ = some (.int .i64 0) := (blk_cell BK145.out 3).trans rfl; have hcz31_4 : w29.cell? ⟨gb145, 4, none⟩ = some (.int .i64 0) := (blk_cell BK145.out 4).trans rfl; have hcz31_5 : w29.cell? ⟨gb145, 5, none⟩ = some (.int .i64 0) := (blk_cell BK145.out 5).trans rfl; have hcz31_6 : w29.cell? ⟨gb145, 6, none⟩ = some (.int .i64 0) := (blk_cell BK145.out 6).trans rfl; have hcz31_7 : w29.cell? ⟨gb145, 7, none⟩ = some (.int .i64 0) := (blk_cell BK145.out 7).trans rfl; have hfz31_0 := blk_frozen BK145.out 0; have hfz31_1 := blk_frozen BK145.out 1; have hfz31_2 := blk_frozen BK145.out 2; have hfz31_3 := blk_frozen BK145.out 3; have hfz31_4 := blk_frozen BK145.out 4; have hfz31_5 := blk_frozen BK145.out 5; have hfz31_6 := blk_frozen BK145.out 6; have hfz31_7 := blk_frozen BK145.out 7) | ((with_reducible refine gate_store (t := 37) (p := 5) rfl ?_); (try (rw [drewN_self w29]; generalize hq_ : World.drewN w29 _ = w29; have n0_ := Aside0.mk (blk_at hq_ BK145.out); have n1_ := Aside0.mk (blk_at hq_ BK146.out); have n2_ := Aside0.mk (below_at hq_ HB.out); clear hq_ BK145 BK146 HB; have BK145 := n0_; have BK146 := n1_; have HB := n2_; clear n0_ n1_ n2_)); refine store_event (t := 37) (p := 5) (v := ?vo_w32) (w1 := ((((((((w29.setCell ⟨gb145, 0, none⟩ (.int .i64 t129)).setCell ⟨gb145, 1, none⟩ (.int .i64 t130)).setCell ⟨gb145, 2, none⟩ (.int .i64 t131)).setCell ⟨gb145, 3, none⟩ (.int .i64 t132)).setCell ⟨gb145, 4, none⟩ (.int .i64 t133)).setCell ⟨gb145, 5, none⟩ (.int .i64 t134)).setCell ⟨gb145, 6, none⟩ (.int .i64 t135)).setCell ⟨gb145, 7, none⟩ (.int .i64 t136))) ?hg ?ho ?hn ?hr ?_; (case ho => rfl); (case hg => rfl); (case hn => rfl); (case hr => first | (go_simp; done) | (go_simp; rfl)); intro w32 hw; have n0_ : Aside0 (w32.heap[gb145]? = some (.cells #[.int .i64 t129, .int .i64 t130, .int .i64 t131, .int .i64 t132, .int .i64 t133, .int .i64 t134, .int .i64 t135, .int .i64 t136] 37 (0, 0))) := ⟨(by rw [hw]; exact (by (with_reducible repeat (first | refine blk_drewN ?_ _ | refine blk_drew ?_ | refine blk_alloc ?_ _)); refine blk_put (cs := #[.int .i64 t129, .int .i64 t130, .int .i64 t131, .int .i64 t132, .int .i64 t133, .int .i64 t134, .int .i64 t135, .int .i64 0]) ?_ 7 _ (by first | rfl | (simp; done)); (with_reducible repeat (first | refine blk_drewN ?_ _ | refine blk_drew ?_ | refine blk_alloc ?_ _)); refine blk_put (cs := #[.int .i64 t129, .int .i64 t130, .int .i64 t131, .int .i64 t132, .int .i64 t133, .int .i64 t134, .int .i64 0, .int .i64 0]) ?_ 6 _ (by first | rfl | (simp; done)); (with_reducible repeat (first | refine blk_drewN ?_ _ | refine blk_drew ?_ | refine blk_alloc ?_ _)); refine blk_put (cs := #[.int .i64 t129, .int .i64 t130, .int .i64 t131, .int .i64 t132, .int .i64 t133, .int .i64 0, .int .i64 0, .int .i64 0]) ?_ 5 _ (by first | rfl | (simp; done)); (with_reducible repeat (first | refine blk_drewN ?_ _ | refine blk_drew ?_ | refine blk_alloc ?_ _)); refine blk_put (cs := #[.int .i64 t129, .int .i64 t130, .int .i64 t131, .int .i64 t132, .int .i64 0, .int .i64 0, .int .i64 0, .int .i64 0]) ?_ 4 _ (by first | rfl | (simp; done)); (with_reducible repeat (first | refine blk_drewN ?_ _ | refine blk_drew ?_ | refine blk_alloc ?_ _)); refine blk_put (cs := #[.int .i64 t129, .int .i64 t130, .int .i64 t131, .int .i64 0, .int .i64 0, .int .i64 0, .int .i64 0, .int .i64 0]) ?_ 3 _ (by first | rfl | (simp; done)); (with_reducible repeat (first | refine blk_drewN ?_ _ | refine blk_drew ?_ | refine blk_alloc ?_ _)); refine blk_put (cs := #[.int .i64 t129, .int .i64 t130, .int .i64 0, .int .i64 0, .int .i64 0, .int .i64 0, .int .i64 0, .int .i64 0]) ?_ 2 _ (by first | rfl | (simp; done)); (with_reducible repeat (first | refine blk_drewN ?_ _ | refine blk_drew ?_ | refine blk_alloc ?_ _)); refine blk_put (cs := #[.int .i64 t129, .int .i64 0, .int .i64 0, .int .i64 0, .int .i64 0, .int .i64 0, .int .i64 0, .int .i64 0]) ?_ 1 _ (by first | rfl | (simp; done)); (with_reducible repeat (first | refine blk_drewN ?_ _ | refine blk_drew ?_ | refine blk_alloc ?_ _)); refine blk_put (cs := #[.int .i64 0, .int .i64 0, .int .i64 0, .int .i64 0, .int .i64 0, .int .i64 0, .int .i64 0, .int .i64 0]) ?_ 0 _ (by first | rfl | (simp; done)); (with_reducible repeat (first | refine blk_drewN ?_ _ | refine blk_drew ?_ | refine blk_alloc ?_ _)); exact BK145.out))⟩; have n1_ : Aside0 (w32.heap[gb146]? = some (.cells #[.int .i64 0, .int .i64 0, .int .i64 0, .int .i64 0, .int .i64 0, .int .i64 0, .int .i64 0, .int .i64 0] 37 (0, 0))) := ⟨(by rw [hw]; exact (by (with_reducible repeat (first | refine blk_drewN ?_ _ | refine blk_drew ?_ | refine blk_alloc ?_ _)); refine blk_far ?_ NB146_145.out _; (with_reducible repeat (first | refine blk_drewN ?_ _ | refine blk_drew ?_ | refine blk_alloc ?_ _)); refine blk_far ?_ NB146_145.out _; (with_reducible repeat (first | refine blk_drewN ?_ _ | refine blk_drew ?_ | refine blk_alloc ?_ _)); refine blk_far ?_ NB146_145.out _; (with_reducible repeat (first | refine blk_drewN ?_ _ | refine blk_drew ?_ | refine blk_alloc ?_ _)); refine blk_far ?_ NB146_145.out _; (with_reducible repeat (first | refine blk_drewN ?_ _ | refine blk_drew ?_ | refine blk_alloc ?_ _)); refine blk_far ?_ NB146_145.out _; (with_reducible repeat (first | refine blk_drewN ?_ _ | refine blk_drew ?_ | refine blk_alloc ?_ _)); refine blk_far ?_ NB146_145.out _; (with_reducible repeat (first | refine blk_drewN ?_ _ | refine blk_drew ?_ | refine blk_alloc ?_ _)); refine blk_far ?_ NB146_145.out _; (with_reducible repeat (first | refine blk_drewN ?_ _ | refine blk_drew ?_ | refine blk_alloc ?_ _)); refine blk_far ?_ NB146_145.out _; (with_reducible repeat (first | refine blk_drewN ?_ _ | refine blk_drew ?_ | refine blk_alloc ?_ _)); exact BK146.out))⟩; have n2_ : Aside0 (Below w.heap.size w w32) := ⟨(by rw [hw]; exact (by repeat (first | (with_reducible first | exact HB.out | apply below_alloc | apply pw_below_drewN | apply below_drew1 | refine below_set ?_ GE145.out | refine below_set ?_ GE146.out) | exact HB.out)))⟩; clear hw; clear BK145; clear BK146; clear HB; have BK145 := n0_; have BK146 := n1_; have HB := n2_; clear n0_ n1_ n2_; have hcz33_0 : w32.cell? ⟨gb146, 0, none⟩ = some (.int .i64 0) := (blk_cell BK146.out 0).trans rfl; have hcz33_1 : w32.cell? ⟨gb146, 1, none⟩ = some (.int .i64 0) := (blk_cell BK146.out 1).trans rfl; have hcz33_2 : w32.cell? ⟨gb146, 2, none⟩ = some (.int .i64 0) := (blk_cell BK146.out 2).trans rfl; have hcz33_3 : w32.cell? ⟨gb146, 3, none⟩ = some (.int .i64 0) := (blk_cell BK146.out 3).trans rfl; have hcz33_4 : w32.cell? ⟨gb146, 4, none⟩ = some (.int .i64 0) := (blk_cell BK146.out 4).trans rfl; have hcz33_5 : w32.cell? ⟨gb146, 5, none⟩ = some (.int .i64 0) := (blk_cell BK146.out 5).trans rfl; have hcz33_6 : w32.cell? ⟨gb146, 6, none⟩ = some (.int .i64 0) := (blk_cell BK146.out 6).trans rfl; have hcz33_7 : w32.cell? ⟨gb146, 7, none⟩ = some (.int .i64 0) := (blk_cell BK146.out 7).trans rfl; have hfz33_0 := blk_frozen BK146.out 0; have hfz33_1 := blk_frozen BK146.out 1; have hfz33_2 := blk_frozen BK146.out 2; have hfz33_3 := blk_frozen BK146.out 3; have hfz33_4 := blk_frozen BK146.out 4; have hfz33_5 := blk_frozen BK146.out 5; have hfz33_6 := blk_frozen BK146.out 6; have hfz33_7 := blk_frozen BK146.out 7) | ((with_reducible refine gate_store (t := 37) (p := 6) rfl ?_); (try (rw [drewN_self w32]; generalize hq_ : World.drewN w32 _ = w32; have n0_ := Aside0.mk (blk_at hq_ BK145.out); have n1_ := Aside0.mk (blk_at hq_ BK146.out); have n2_ := Aside0.mk (below_at hq_ HB.out); clear hq_ BK145 BK146 HB; have BK145 := n0_; have BK146 := n1_; have HB := n2_; clear n0_ n1_ n2_)); refine store_event (t := 37) (p := 6) (v := ?vo_w34) (w1 := ((((((((w32.setCell ⟨gb146, 0, none⟩ (.int .i64 t137)).setCell ⟨gb146, 1, none⟩ (.int .i64 t138)).setCell ⟨gb146, 2, none⟩ (.int .i64 t139)).setCell ⟨gb146, 3, none⟩ (.int .i64 t140)).setCell ⟨gb146, 4, none⟩ (.int .i64 t141)).setCell ⟨gb146, 5, none⟩ (.int .i64 t142)).setCell ⟨gb146, 6, none⟩ (.int .i64 t143)).setCell ⟨gb146, 7, none⟩ (.int .i64 t144))) ?hg ?ho ?hn ?hr ?_; (case ho => rfl); (case hg => rfl); (case hn => rfl); (case hr => first | (go_simp; done) | (go_simp; rfl)); intro w34 hw; have n0_ : Aside0 (w34.heap[gb145]? = some (.cells #[.int .i64 t129, .int .i64 t130, .int .i64 t131, .int .i64 t132, .int .i64 t133, .int .i64 t134, .int .i64 t135, .int .i64 t136] 37 (0, 0))) := ⟨(by rw [hw]; exact (by (with_reducible repeat (first | refine blk_drewN ?_ _ | refine blk_drew ?_ | refine blk_alloc ?_ _)); refine blk_far ?_ NB145_146.out _; (with_reducible repeat (first | refine blk_drewN ?_ _ | refine blk_drew ?_ | refine blk_alloc ?_ _)); refine blk_far ?_ NB145_146.out _; (with_reducible repeat (first | refine blk_drewN ?_ _ | refine blk_drew ?_ | refine blk_alloc ?_ _)); refine blk_far ?_ NB145_146.out _; (with_reducible repeat (first | refine blk_drewN ?_ _ | refine blk_drew ?_ | refine blk_alloc ?_ _)); refine blk_far ?_ NB145_146.out _; (with_reducible repeat (first | refine blk_drewN ?_ _ | refine blk_drew ?_ | refine blk_alloc ?_ _)); refine blk_far ?_ NB145_146.out _; (with_reducible repeat (first | refine blk_drewN ?_ _ | refine blk_drew ?_ | refine blk_alloc ?_ _)); refine blk_far ?_ NB145_146.out _; (with_reducible repeat (first | refine blk_drewN ?_ _ | refine blk_drew ?_ | refine blk_alloc ?_ _)); refine blk_far ?_ NB145_146.out _; (with_reducible repeat (first | refine blk_drewN ?_ _ | refine blk_drew ?_ | refine blk_alloc ?_ _)); refine blk_far ?_ NB145_146.out _; (with_reducible repeat (first | refine blk_drewN ?_ _ | refine blk_drew ?_ | refine blk_alloc ?_ _)); exact BK145.out))⟩; have n1_ : Aside0 (w34.heap[gb146]? = some (.cells #[.int .i64 t137, .int .i64 t138, .int .i64 t139, .int .i64 t140, .int .i64 t141, .int .i64 t142, .int .i64 t143, .int .i64 t144] 37 (0, 0))) := ⟨(by rw [hw]; exact (by (with_reducible repeat (first | refine blk_drewN ?_ _ | refine blk_drew ?_ | refine blk_alloc ?_ _)); refine blk_put (cs := #[.int .i64 t137, .int .i64 t138, .int .i64 t139, .int .i64 t140, .int .i64 t141, .int .i64 t142, .int .i64 t143, .int .i64 0]) ?_ 7 _ (by first | rfl | (simp; done)); (with_reducible repeat (first | refine blk_drewN ?_ _ | refine blk_drew ?_ | refine blk_alloc ?_ _)); refine blk_put (cs := #[.int .i64 t137, .int .i64 t138, .int .i64 t139, .int .i64 t140, .int .i64 t141, .int .i64 t142, .int .i64 0, .int .i64 0]) ?_ 6 _ (by first | rfl | (simp; done)); (with_reducible repeat (first | refine blk_drewN ?_ _ | refine blk_drew ?_ | refine blk_alloc ?_ _)); refine blk_put (cs := #[.int .i64 t137, .int .i64 t138, .int .i64 t139, .int .i64 t140, .int .i64 t141, .int .i64 0, .int .i64 0, .int .i64 0]) ?_ 5 _ (by first | rfl | (simp; done)); (with_reducible repeat (first | refine blk_drewN ?_ _ | refine blk_drew ?_ | refine blk_alloc ?_ _)); refine blk_put (cs := #[.int .i64 t137, .int .i64 t138, .int .i64 t139, .int .i64 t140, .int .i64 0, .int .i64 0, .int .i64 0, .int .i64 0]) ?_ 4 _ (by first | rfl | (simp; done)); (with_reducible repeat (first | refine blk_drewN ?_ _ | refine blk_drew ?_ | refine blk_alloc ?_ _)); refine blk_put (cs := #[.int .i64 t137, .int .i64 t138, .int .i64 t139, .int .i64 0, .int .i64 0, .int .i64 0, .int .i64 0, .int .i64 0]) ?_ 3 _ (by first | rfl | (simp; done)); (with_reducible repeat (first | refine blk_drewN ?_ _ | refine blk_drew ?_ | refine blk_alloc ?_ _)); refine blk_put (cs := #[.int .i64 t137, .int .i64 t138, .int .i64 0, .int .i64 0, .int .i64 0, .int .i64 0, .int .i64 0, .int .i64 0]) ?_ 2 _ (by first | rfl | (simp; done)); (with_reducible repeat (first | refine blk_drewN ?_ _ | refine blk_drew ?_ | refine blk_alloc ?_ _)); refine blk_put (cs := #[.int .i64 t137, .int .i64 0, .int .i64 0, .int .i64 0, .int .i64 0, .int .i64 0, .int .i64 0, .int .i64 0]) ?_ 1 _ (by first | rfl | (simp; done)); (with_reducible repeat (first | refine blk_drewN ?_ _ | refine blk_drew ?_ | refine blk_alloc ?_ _)); refine blk_put (cs := #[.int .i64 0, .int .i64 0, .int .i64 0, .int .i64 0, .int .i64 0, .int .i64 0, .int .i64 0, .int .i64 0]) ?_ 0 _ (by first | rfl | (simp; done)); (with_reducible repeat (first | refine blk_drewN ?_ _ | refine blk_drew ?_ | refine blk_alloc ?_ _)); exact BK146.out))⟩; have n2_ : Aside0 (Below w.heap.size w w34) := ⟨(by rw [hw]; exact (by repeat (first | (with_reducible first | exact HB.out | apply below_alloc | apply pw_below_drewN | apply below_drew1 | refine below_set ?_ GE145.out | refine below_set ?_ GE146.out) | exact HB.out)))⟩; clear hw; clear BK145; clear BK146; clear HB; have BK145 := n0_; have BK146 := n1_; have HB := n2_; clear n0_ n1_ n2_; have hcz35_0 : w34.cell? ⟨gb145, 0, none⟩ = some (.int .i64 t129) := (blk_cell BK145.out 0).trans rfl; have hcz35_1 : w34.cell? ⟨gb145, 1, none⟩ = some (.int .i64 t130) := (blk_cell BK145.out 1).trans rfl; have hcz35_2 : w34.cell? ⟨gb145, 2, none⟩ = some (.int .i64 t131) := (blk_cell BK145.out 2).trans rfl; have hcz35_3 : w34.cell? ⟨gb145, 3, none⟩ = some (.int .i64 t132) := (blk_cell BK145.out 3).trans rfl; have hcz35_4 : w34.cell? ⟨gb145, 4, none⟩ = some (.int .i64 t133) := (blk_cell BK145.out 4).trans rfl; have hcz35_5 : w34.cell? ⟨gb145, 5, none⟩ = some (.int .i64 t134) := (blk_cell BK145.out 5).trans rfl; have hcz35_6 : w34.cell? ⟨gb145, 6, none⟩ = some (.int .i64 t135) := (blk_cell BK145.out 6).trans rfl; have hcz35_7 : w34.cell? ⟨gb145, 7, none⟩ = some (.int .i64 t136) := (blk_cell BK145.out 7).trans rfl; have hfz35_0 := blk_frozen BK145.out 0; have hfz35_1 := blk_frozen BK145.out 1; have hfz35_2 := blk_frozen BK145.out 2; have hfz35_3 := blk_frozen BK145.out 3; have hfz35_4 := blk_frozen BK145.out 4; have hfz35_5 := blk_frozen BK145.out 5; have hfz35_6 := blk_frozen BK145.out 6; have hfz35_7 := blk_frozen BK145.out 7))
          repeat (go_quiet (first | (go_at_call 25; (with_reducible refine (date_Of.calls kj2 a0 a1 t129 t130 t131 t132 t133 t134 t135 t136 _ A11.out).mono ?_); rintro e w26 ⟨rfl, hb⟩; have n0_ := Aside0.mk (below_step (by repeat (first | (with_reducible first | exact HB.out | apply below_alloc | apply pw_below_drewN | apply below_drew1) | exact HB.out)) hb); clear HB; have HB := n0_; clear n0_; (try clear hb); (try clear hb2); (try clear hk); (try clear hi)) | (go_at_call 25; (with_reducible refine (date_Of.calls kj2 (wrap64 (a0 + 1)) a1 t137 t138 t139 t140 t141 t142 t143 t144 _ A12.out).mono ?_); rintro e w27 ⟨rfl, hb⟩; have n0_ := Aside0.mk (below_step (by repeat (first | (with_reducible first | exact HB.out | apply below_alloc | apply pw_below_drewN | apply below_drew1) | exact HB.out)) hb); clear HB; have HB := n0_; clear n0_; (try clear hb); (try clear hb2); (try clear hk); (try clear hi)) | ((with_reducible refine gate_dst (N := 5) rfl ?_); refine box_event ?hg (N := 5) ?hd (cs := #[.int .i64 0, .int .i64 0, .int .i64 0, .int .i64 0, .int .i64 0, .int .i64 0, .int .i64 0, .int .i64 0]) (t := 37) ?hr ?_; (case hd => rfl); (case hg => rfl); (case hr => first | (go_simp; done) | (go_simp; rfl)); intro gb145 hg w28 hbox hb; have n0_ := Aside0.mk (below_step (by repeat (first | (with_reducible first | exact HB.out | apply below_alloc | apply pw_below_drewN | apply below_drew1) | exact HB.out)) hb); have n1_ := Aside0.mk (hbox); have n2_ := Aside0.mk ((by rw [hg]; exact (below_size (by repeat (first | (with_reducible first | exact HB.out | apply below_alloc | apply pw_below_drewN | apply below_drew1) | exact HB.out))) : w.heap.size ≤ gb145)); have n3_ := Aside0.mk ((by rw [hg]; exact (below_size (by repeat (first | (with_reducible first | exact HB.out | apply below_alloc | apply pw_below_drewN | apply below_drew1) | exact HB.out))) : w.heap.size ≤ gb145)); clear HB; have HB := n0_; have BK145 := n1_; have GW145 := n2_; have GE145 := n3_; clear n0_ n1_ n2_ n3_; clear hb hbox hg) | ((with_reducible refine gate_dst (N := 6) rfl ?_); refine box_event ?hg (N := 6) ?hd (cs := #[.int .i64 0, .int .i64 0, .int .i64 0, .int .i64 0, .int .i64 0, .int .i64 0, .int .i64 0, .int .i64 0]) (t := 37) ?hr ?_; (case hd => rfl); (case hg => rfl); (case hr => first | (go_simp; done) | (go_simp; rfl)); intro gb146 hg w29 hbox hb; have n0_ := Aside0.mk (blk_below (g := gb145) (o := .cells #[.int .i64 0, .int .i64 0, .int .i64 0, .int .i64 0, .int .i64 0, .int .i64 0, .int .i64 0, .int .i64 0] 37 (0, 0)) (by (with_reducible repeat (first | refine blk_drewN ?_ _ | refine blk_drew ?_ | refine blk_alloc ?_ _)); exact BK145.out) hb); have n1_ := Aside0.mk (below_step (by repeat (first | (with_reducible first | exact HB.out | apply below_alloc | apply pw_below_drewN | apply below_drew1 | refine below_set ?_ GE145.out) | exact HB.out)) hb); have n2_ := Aside0.mk (hbox); have n3_ := Aside0.mk ((by rw [hg]; exact (below_size (by repeat (first | (with_reducible first | exact HB.out | apply below_alloc | apply pw_below_drewN | apply below_drew1 | refine below_set ?_ GE145.out) | exact HB.out))) : w.heap.size ≤ gb146)); have n4_ := Aside0.mk ((by rw [hg]; exact (below_size (by repeat (first | (with_reducible first | exact HB.out | apply below_alloc | apply pw_below_drewN | apply below_drew1 | refine below_set ?_ GE145.out) | exact HB.out))) : w.heap.size ≤ gb146)); have n5_ := Aside0.mk ((by rw [hg]; exact Nat.ne_of_lt (blk_lt (g := gb145) (o := .cells #[.int .i64 0, .int .i64 0, .int .i64 0, .int .i64 0, .int .i64 0, .int .i64 0, .int .i64 0, .int .i64 0] 37 (0, 0)) (by (with_reducible repeat (first | refine blk_drewN ?_ _ | refine blk_drew ?_ | refine blk_alloc ?_ _)); exact BK145.out)) : gb145 ≠ gb146)); have n6_ := Aside0.mk ((by rw [hg]; exact Nat.ne_of_gt (blk_lt (g := gb145) (o := .cells #[.int .i64 0, .int .i64 0, .int .i64 0, .int .i64 0, .int .i64 0, .int .i64 0, .int .i64 0, .int .i64 0] 37 (0, 0)) (by (with_reducible repeat (first | refine blk_drewN ?_ _ | refine blk_drew ?_ | refine blk_alloc ?_ _)); exact BK145.out)) : gb146 ≠ gb145)); clear BK145; clear HB; have BK145 := n0_; have HB := n1_; have BK146 := n2_; have GW146 := n3_; have GE146 := n4_; have NB145_146 := n5_; have NB146_145 := n6_; clear n0_ n1_ n2_ n3_ n4_ n5_ n6_; clear hb hbox hg; have hnb30 := NB145_146.out; have hnc30 := NB146_145.out; have hcz31_0 : w29.cell? ⟨gb145, 0, none⟩ = some (.int .i64 0) := (blk_cell BK145.out 0).trans rfl; have hcz31_1 : w29.cell? ⟨gb145, 1, none⟩ = some (.int .i64 0) := (blk_cell BK145.out 1).trans rfl; have hcz31_2 : w29.cell? ⟨gb145, 2, none⟩ = some (.int .i64 0) := (blk_cell BK145.out 2).trans rfl; have hcz31_3 : w29.cell? ⟨gb145, 3, none⟩ = some (.int .i64 0) := (blk_cell BK145.out 3).trans rfl; have hcz31_4 : w29.cell? ⟨gb145, 4, none⟩ = some (.int .i64 0) := (blk_cell BK145.out 4).trans rfl; have hcz31_5 : w29.cell? ⟨gb145, 5, none⟩ = some (.int .i64 0) := (blk_cell BK145.out 5).trans rfl; have hcz31_6 : w29.cell? ⟨gb145, 6, none⟩ = some (.int .i64 0) := (blk_cell BK145.out 6).trans rfl; have hcz31_7 : w29.cell? ⟨gb145, 7, none⟩ = some (.int .i64 0) := (blk_cell BK145.out 7).trans rfl; have hfz31_0 := blk_frozen BK145.out 0; have hfz31_1 := blk_frozen BK145.out 1; have hfz31_2 := blk_frozen BK145.out 2; have hfz31_3 := blk_frozen BK145.out 3; have hfz31_4 := blk_frozen BK145.out 4; have hfz31_5 := blk_frozen BK145.out 5; have hfz31_6 := blk_frozen BK145.out 6; have hfz31_7 := blk_frozen BK145.out 7) | ((with_reducible refine gate_store (t := 37) (p := 5) rfl ?_); (try (rw [drewN_self w29]; generalize hq_ : World.drewN w29 _ = w29; have n0_ := Aside0.mk (blk_at hq_ BK145.out); have n1_ := Aside0.mk (blk_at hq_ BK146.out); have n2_ := Aside0.mk (below_at hq_ HB.out); clear hq_ BK145 BK146 HB; have BK145 := n0_; have BK146 := n1_; have HB := n2_; clear n0_ n1_ n2_)); refine store_event (t := 37) (p := 5) (v := ?vo_w32) (w1 := ((((((((w29.setCell ⟨gb145, 0, none⟩ (.int .i64 t129)).setCell ⟨gb145, 1, none⟩ (.int .i64 t130)).setCell ⟨gb145, 2, none⟩ (.int .i64 t131)).setCell ⟨gb145, 3, none⟩ (.int .i64 t132)).setCell ⟨gb145, 4, none⟩ (.int .i64 t133)).setCell ⟨gb145, 5, none⟩ (.int .i64 t134)).setCell ⟨gb145, 6, none⟩ (.int .i64 t135)).setCell ⟨gb145, 7, none⟩ (.int .i64 t136))) ?hg ?ho ?hn ?hr ?_; (case ho => rfl); (case hg => rfl); (case hn => rfl); (case hr => first | (go_simp; done) | (go_simp; rfl)); intro w32 hw; have n0_ : Aside0 (w32.heap[gb145]? = some (.cells #[.int .i64 t129, .int .i64 t130, .int .i64 t131, .int .i64 t132, .int .i64 t133, .int .i64 t134, .int .i64 t135, .int .i64 t136] 37 (0, 0))) := ⟨(by rw [hw]; exact (by (with_reducible repeat (first | refine blk_drewN ?_ _ | refine blk_drew ?_ | refine blk_alloc ?_ _)); refine blk_put (cs := #[.int .i64 t129, .int .i64 t130, .int .i64 t131, .int .i64 t132, .int .i64 t133, .int .i64 t134, .int .i64 t135, .int .i64 0]) ?_ 7 _ (by first | rfl | (simp; done)); (with_reducible repeat (first | refine blk_drewN ?_ _ | refine blk_drew ?_ | refine blk_alloc ?_ _)); refine blk_put (cs := #[.int .i64 t129, .int .i64 t130, .int .i64 t131, .int .i64 t132, .int .i64 t133, .int .i64 t134, .int .i64 0, .int .i64 0]) ?_ 6 _ (by first | rfl | (simp; done)); (with_reducible repeat (first | refine blk_drewN ?_ _ | refine blk_drew ?_ | refine blk_alloc ?_ _)); refine blk_put (cs := #[.int .i64 t129, .int .i64 t130, .int .i64 t131, .int .i64 t132, .int .i64 t133, .int .i64 0, .int .i64 0, .int .i64 0]) ?_ 5 _ (by first | rfl | (simp; done)); (with_reducible repeat (first | refine blk_drewN ?_ _ | refine blk_drew ?_ | refine blk_alloc ?_ _)); refine blk_put (cs := #[.int .i64 t129, .int .i64 t130, .int .i64 t131, .int .i64 t132, .int .i64 0, .int .i64 0, .int .i64 0, .int .i64 0]) ?_ 4 _ (by first | rfl | (simp; done)); (with_reducible repeat (first | refine blk_drewN ?_ _ | refine blk_drew ?_ | refine blk_alloc ?_ _)); refine blk_put (cs := #[.int .i64 t129, .int .i64 t130, .int .i64 t131, .int .i64 0, .int .i64 0, .int .i64 0, .int .i64 0, .int .i64 0]) ?_ 3 _ (by first | rfl | (simp; done)); (with_reducible repeat (first | refine blk_drewN ?_ _ | refine blk_drew ?_ | refine blk_alloc ?_ _)); refine blk_put (cs := #[.int .i64 t129, .int .i64 t130, .int .i64 0, .int .i64 0, .int .i64 0, .int .i64 0, .int .i64 0, .int .i64 0]) ?_ 2 _ (by first | rfl | (simp; done)); (with_reducible repeat (first | refine blk_drewN ?_ _ | refine blk_drew ?_ | refine blk_alloc ?_ _)); refine blk_put (cs := #[.int .i64 t129, .int .i64 0, .int .i64 0, .int .i64 0, .int .i64 0, .int .i64 0, .int .i64 0, .int .i64 0]) ?_ 1 _ (by first | rfl | (simp; done)); (with_reducible repeat (first | refine blk_drewN ?_ _ | refine blk_drew ?_ | refine blk_alloc ?_ _)); refine blk_put (cs := #[.int .i64 0, .int .i64 0, .int .i64 0, .int .i64 0, .int .i64 0, .int .i64 0, .int .i64 0, .int .i64 0]) ?_ 0 _ (by first | rfl | (simp; done)); (with_reducible repeat (first | refine blk_drewN ?_ _ | refine blk_drew ?_ | refine blk_alloc ?_ _)); exact BK145.out))⟩; have n1_ : Aside0 (w32.heap[gb146]? = some (.cells #[.int .i64 0, .int .i64 0, .int .i64 0, .int .i64 0, .int .i64 0, .int .i64 0, .int .i64 0, .int .i64 0] 37 (0, 0))) := ⟨(by rw [hw]; exact (by (with_reducible repeat (first | refine blk_drewN ?_ _ | refine blk_drew ?_ | refine blk_alloc ?_ _)); refine blk_far ?_ NB146_145.out _; (with_reducible repeat (first | refine blk_drewN ?_ _ | refine blk_drew ?_ | refine blk_alloc ?_ _)); refine blk_far ?_ NB146_145.out _; (with_reducible repeat (first | refine blk_drewN ?_ _ | refine blk_drew ?_ | refine blk_alloc ?_ _)); refine blk_far ?_ NB146_145.out _; (with_reducible repeat (first | refine blk_drewN ?_ _ | refine blk_drew ?_ | refine blk_alloc ?_ _)); refine blk_far ?_ NB146_145.out _; (with_reducible repeat (first | refine blk_drewN ?_ _ | refine blk_drew ?_ | refine blk_alloc ?_ _)); refine blk_far ?_ NB146_145.out _; (with_reducible repeat (first | refine blk_drewN ?_ _ | refine blk_drew ?_ | refine blk_alloc ?_ _)); refine blk_far ?_ NB146_145.out _; (with_reducible repeat (first | refine blk_drewN ?_ _ | refine blk_drew ?_ | refine blk_alloc ?_ _)); refine blk_far ?_ NB146_145.out _; (with_reducible repeat (first | refine blk_drewN ?_ _ | refine blk_drew ?_ | refine blk_alloc ?_ _)); refine blk_far ?_ NB146_145.out _; (with_reducible repeat (first | refine blk_drewN ?_ _ | refine blk_drew ?_ | refine blk_alloc ?_ _)); exact BK146.out))⟩; have n2_ : Aside0 (Below w.heap.size w w32) := ⟨(by rw [hw]; exact (by repeat (first | (with_reducible first | exact HB.out | apply below_alloc | apply pw_below_drewN | apply below_drew1 | refine below_set ?_ GE145.out | refine below_set ?_ GE146.out) | exact HB.out)))⟩; clear hw; clear BK145; clear BK146; clear HB; have BK145 := n0_; have BK146 := n1_; have HB := n2_; clear n0_ n1_ n2_; have hcz33_0 : w32.cell? ⟨gb146, 0, none⟩ = some (.int .i64 0) := (blk_cell BK146.out 0).trans rfl; have hcz33_1 : w32.cell? ⟨gb146, 1, none⟩ = some (.int .i64 0) := (blk_cell BK146.out 1).trans rfl; have hcz33_2 : w32.cell? ⟨gb146, 2, none⟩ = some (.int .i64 0) := (blk_cell BK146.out 2).trans rfl; have hcz33_3 : w32.cell? ⟨gb146, 3, none⟩ = some (.int .i64 0) := (blk_cell BK146.out 3).trans rfl; have hcz33_4 : w32.cell? ⟨gb146, 4, none⟩ = some (.int .i64 0) := (blk_cell BK146.out 4).trans rfl; have hcz33_5 : w32.cell? ⟨gb146, 5, none⟩ = some (.int .i64 0) := (blk_cell BK146.out 5).trans rfl; have hcz33_6 : w32.cell? ⟨gb146, 6, none⟩ = some (.int .i64 0) := (blk_cell BK146.out 6).trans rfl; have hcz33_7 : w32.cell? ⟨gb146, 7, none⟩ = some (.int .i64 0) := (blk_cell BK146.out 7).trans rfl; have hfz33_0 := blk_frozen BK146.out 0; have hfz33_1 := blk_frozen BK146.out 1; have hfz33_2 := blk_frozen BK146.out 2; have hfz33_3 := blk_frozen BK146.out 3; have hfz33_4 := blk_frozen BK146.out 4; have hfz33_5 := blk_frozen BK146.out 5; have hfz33_6 := blk_frozen BK146.out 6; have hfz33_7 := blk_frozen BK146.out 7) | ((with_reducible refine gate_store (t := 37) (p := 6) rfl ?_); (try (rw [drewN_self w32]; generalize hq_ : World.drewN w32 _ = w32; have n0_ := Aside0.mk (blk_at hq_ BK145.out); have n1_ := Aside0.mk (blk_at hq_ BK146.out); have n2_ := Aside0.mk (below_at hq_ HB.out); clear hq_ BK145 BK146 HB; have BK145 := n0_; have BK146 := n1_; have HB := n2_; clear n0_ n1_ n2_)); refine store_event (t := 37) (p := 6) (v := ?vo_w34) (w1 := ((((((((w32.setCell ⟨gb146, 0, none⟩ (.int .i64 t137)).setCell ⟨gb146, 1, none⟩ (.int .i64 t138)).setCell ⟨gb146, 2, none⟩ (.int .i64 t139)).setCell ⟨gb146, 3, none⟩ (.int .i64 t140)).setCell ⟨gb146, 4, none⟩ (.int .i64 t141)).setCell ⟨gb146, 5, none⟩ (.int .i64 t142)).setCell ⟨gb146, 6, none⟩ (.int .i64 t143)).setCell ⟨gb146, 7, none⟩ (.int .i64 t144))) ?hg ?ho ?hn ?hr ?_; (case ho => rfl); (case hg => rfl); (case hn => rfl); (case hr => first | (go_simp; done) | (go_simp; rfl)); intro w34 hw; have n0_ : Aside0 (w34.heap[gb145]? = some (.cells #[.int .i64 t129, .int .i64 t130, .int .i64 t131, .int .i64 t132, .int .i64 t133, .int .i64 t134, .int .i64 t135, .int .i64 t136] 37 (0, 0))) := ⟨(by rw [hw]; exact (by (with_reducible repeat (first | refine blk_drewN ?_ _ | refine blk_drew ?_ | refine blk_alloc ?_ _)); refine blk_far ?_ NB145_146.out _; (with_reducible repeat (first | refine blk_drewN ?_ _ | refine blk_drew ?_ | refine blk_alloc ?_ _)); refine blk_far ?_ NB145_146.out _; (with_reducible repeat (first | refine blk_drewN ?_ _ | refine blk_drew ?_ | refine blk_alloc ?_ _)); refine blk_far ?_ NB145_146.out _; (with_reducible repeat (first | refine blk_drewN ?_ _ | refine blk_drew ?_ | refine blk_alloc ?_ _)); refine blk_far ?_ NB145_146.out _; (with_reducible repeat (first | refine blk_drewN ?_ _ | refine blk_drew ?_ | refine blk_alloc ?_ _)); refine blk_far ?_ NB145_146.out _; (with_reducible repeat (first | refine blk_drewN ?_ _ | refine blk_drew ?_ | refine blk_alloc ?_ _)); refine blk_far ?_ NB145_146.out _; (with_reducible repeat (first | refine blk_drewN ?_ _ | refine blk_drew ?_ | refine blk_alloc ?_ _)); refine blk_far ?_ NB145_146.out _; (with_reducible repeat (first | refine blk_drewN ?_ _ | refine blk_drew ?_ | refine blk_alloc ?_ _)); refine blk_far ?_ NB145_146.out _; (with_reducible repeat (first | refine blk_drewN ?_ _ | refine blk_drew ?_ | refine blk_alloc ?_ _)); exact BK145.out))⟩; have n1_ : Aside0 (w34.heap[gb146]? = some (.cells #[.int .i64 t137, .int .i64 t138, .int .i64 t139, .int .i64 t140, .int .i64 t141, .int .i64 t142, .int .i64 t143, .int .i64 t144] 37 (0, 0))) := ⟨(by rw [hw]; exact (by (with_reducible repeat (first | refine blk_drewN ?_ _ | refine blk_drew ?_ | refine blk_alloc ?_ _)); refine blk_put (cs := #[.int .i64 t137, .int .i64 t138, .int .i64 t139, .int .i64 t140, .int .i64 t141, .int .i64 t142, .int .i64 t143, .int .i64 0]) ?_ 7 _ (by first | rfl | (simp; done)); (with_reducible repeat (first | refine blk_drewN ?_ _ | refine blk_drew ?_ | refine blk_alloc ?_ _)); refine blk_put (cs := #[.int .i64 t137, .int .i64 t138, .int .i64 t139, .int .i64 t140, .int .i64 t141, .int .i64 t142, .int .i64 0, .int .i64 0]) ?_ 6 _ (by first | rfl | (simp; done)); (with_reducible repeat (first | refine blk_drewN ?_ _ | refine blk_drew ?_ | refine blk_alloc ?_ _)); refine blk_put (cs := #[.int .i64 t137, .int .i64 t138, .int .i64 t139, .int .i64 t140, .int .i64 t141, .int .i64 0, .int .i64 0, .int .i64 0]) ?_ 5 _ (by first | rfl | (simp; done)); (with_reducible repeat (first | refine blk_drewN ?_ _ | refine blk_drew ?_ | refine blk_alloc ?_ _)); refine blk_put (cs := #[.int .i64 t137, .int .i64 t138, .int .i64 t139, .int .i64 t140, .int .i64 0, .int .i64 0, .int .i64 0, .int .i64 0]) ?_ 4 _ (by first | rfl | (simp; done)); (with_reducible repeat (first | refine blk_drewN ?_ _ | refine blk_drew ?_ | refine blk_alloc ?_ _)); refine blk_put (cs := #[.int .i64 t137, .int .i64 t138, .int .i64 t139, .int .i64 0, .int .i64 0, .int .i64 0, .int .i64 0, .int .i64 0]) ?_ 3 _ (by first | rfl | (simp; done)); (with_reducible repeat (first | refine blk_drewN ?_ _ | refine blk_drew ?_ | refine blk_alloc ?_ _)); refine blk_put (cs := #[.int .i64 t137, .int .i64 t138, .int .i64 0, .int .i64 0, .int .i64 0, .int .i64 0, .int .i64 0, .int .i64 0]) ?_ 2 _ (by first | rfl | (simp; done)); (with_reducible repeat (first | refine blk_drewN ?_ _ | refine blk_drew ?_ | refine blk_alloc ?_ _)); refine blk_put (cs := #[.int .i64 t137, .int .i64 0, .int .i64 0, .int .i64 0, .int .i64 0, .int .i64 0, .int .i64 0, .int .i64 0]) ?_ 1 _ (by first | rfl | (simp; done)); (with_reducible repeat (first | refine blk_drewN ?_ _ | refine blk_drew ?_ | refine blk_alloc ?_ _)); refine blk_put (cs := #[.int .i64 0, .int .i64 0, .int .i64 0, .int .i64 0, .int .i64 0, .int .i64 0, .int .i64 0, .int .i64 0]) ?_ 0 _ (by first | rfl | (simp; done)); (with_reducible repeat (first | refine blk_drewN ?_ _ | refine blk_drew ?_ | refine blk_alloc ?_ _)); exact BK146.out))⟩; have n2_ : Aside0 (Below w.heap.size w w34) := ⟨(by rw [hw]; exact (by repeat (first | (with_reducible first | exact HB.out | apply below_alloc | apply pw_below_drewN | apply below_drew1 | refine below_set ?_ GE145.out | refine below_set ?_ GE146.out) | exact HB.out)))⟩; clear hw; clear BK145; clear BK146; clear HB; have BK145 := n0_; have BK146 := n1_; have HB := n2_; clear n0_ n1_ n2_; have hcz35_0 : w34.cell? ⟨gb145, 0, none⟩ = some (.int .i64 t129) := (blk_cell BK145.out 0).trans rfl; have hcz35_1 : w34.cell? ⟨gb145, 1, none⟩ = some (.int .i64 t130) := (blk_cell BK145.out 1).trans rfl; have hcz35_2 : w34.cell? ⟨gb145, 2, none⟩ = some (.int .i64 t131) := (blk_cell BK145.out 2).trans rfl; have hcz35_3 : w34.cell? ⟨gb145, 3, none⟩ = some (.int .i64 t132) := (blk_cell BK145.out 3).trans rfl; have hcz35_4 : w34.cell? ⟨gb145, 4, none⟩ = some (.int .i64 t133) := (blk_cell BK145.out 4).trans rfl; have hcz35_5 : w34.cell? ⟨gb145, 5, none⟩ = some (.int .i64 t134) := (blk_cell BK145.out 5).trans rfl; have hcz35_6 : w34.cell? ⟨gb145, 6, none⟩ = some (.int .i64 t135) := (blk_cell BK145.out 6).trans rfl; have hcz35_7 : w34.cell? ⟨gb145, 7, none⟩ = some (.int .i64 t136) := (blk_cell BK145.out 7).trans rfl; have hfz35_0 := blk_frozen BK145.out 0; have hfz35_1 := blk_frozen BK145.out 1; have hfz35_2 := blk_frozen BK145.out 2; have hfz35_3 := blk_frozen BK145.out 3; have hfz35_4 := blk_frozen BK145.out 4; have hfz35_5 := blk_frozen BK145.out 5; have hfz35_6 := blk_frozen BK145.out 6; have hfz35_7 := blk_frozen BK145.out 7)); go_upto_region 7 with (first | (go_at_call 25; (with_reducible refine (date_Of.calls kj2 a0 a1 t129 t130 t131 t132 t133 t134 t135 t136 _ A11.out).mono ?_); rintro e w26 ⟨rfl, hb⟩; have n0_ := Aside0.mk (below_step (by repeat (first | (with_reducible first | exact HB.out | apply below_alloc | apply pw_below_drewN | apply below_drew1) | exact HB.out)) hb); clear HB; have HB := n0_; clear n0_; (try clear hb); (try clear hb2); (try clear hk); (try clear hi)) | (go_at_call 25; (with_reducible refine (date_Of.calls kj2 (wrap64 (a0 + 1)) a1 t137 t138 t139 t140 t141 t142 t143 t144 _ A12.out).mono ?_); rintro e w27 ⟨rfl, hb⟩; have n0_ := Aside0.mk (below_step (by repeat (first | (with_reducible first | exact HB.out | apply below_alloc | apply pw_below_drewN | apply below_drew1) | exact HB.out)) hb); clear HB; have HB := n0_; clear n0_; (try clear hb); (try clear hb2); (try clear hk); (try clear hi)) | ((with_reducible refine gate_dst (N := 5) rfl ?_); refine box_event ?hg (N := 5) ?hd (cs := #[.int .i64 0, .int .i64 0, .int .i64 0, .int .i64 0, .int .i64 0, .int .i64 0, .int .i64 0, .int .i64 0]) (t := 37) ?hr ?_; (case hd => rfl); (case hg => rfl); (case hr => first | (go_simp; done) | (go_simp; rfl)); intro gb145 hg w28 hbox hb; have n0_ := Aside0.mk (below_step (by repeat (first | (with_reducible first | exact HB.out | apply below_alloc | apply pw_below_drewN | apply below_drew1) | exact HB.out)) hb); have n1_ := Aside0.mk (hbox); have n2_ := Aside0.mk ((by rw [hg]; exact (below_size (by repeat (first | (with_reducible first | exact HB.out | apply below_alloc | apply pw_below_drewN | apply below_drew1) | exact HB.out))) : w.heap.size ≤ gb145)); have n3_ := Aside0.mk ((by rw [hg]; exact (below_size (by repeat (first | (with_reducible first | exact HB.out | apply below_alloc | apply pw_below_drewN | apply below_drew1) | exact HB.out))) : w.heap.size ≤ gb145)); clear HB; have HB := n0_; have BK145 := n1_; have GW145 := n2_; have GE145 := n3_; clear n0_ n1_ n2_ n3_; clear hb hbox hg) | ((with_reducible refine gate_dst (N := 6) rfl ?_); refine box_event ?hg (N := 6) ?hd (cs := #[.int .i64 0, .int .i64 0, .int .i64 0, .int .i64 0, .int .i64 0, .int .i64 0, .int .i64 0, .int .i64 0]) (t := 37) ?hr ?_; (case hd => rfl); (case hg => rfl); (case hr => first | (go_simp; done) | (go_simp; rfl)); intro gb146 hg w29 hbox hb; have n0_ := Aside0.mk (blk_below (g := gb145) (o := .cells #[.int .i64 0, .int .i64 0, .int .i64 0, .int .i64 0, .int .i64 0, .int .i64 0, .int .i64 0, .int .i64 0] 37 (0, 0)) (by (with_reducible repeat (first | refine blk_drewN ?_ _ | refine blk_drew ?_ | refine blk_alloc ?_ _)); exact BK145.out) hb); have n1_ := Aside0.mk (below_step (by repeat (first | (with_reducible first | exact HB.out | apply below_alloc | apply pw_below_drewN | apply below_drew1 | refine below_set ?_ GE145.out) | exact HB.out)) hb); have n2_ := Aside0.mk (hbox); have n3_ := Aside0.mk ((by rw [hg]; exact (below_size (by repeat (first | (with_reducible first | exact HB.out | apply below_alloc | apply pw_below_drewN | apply below_drew1 | refine below_set ?_ GE145.out) | exact HB.out))) : w.heap.size ≤ gb146)); have n4_ := Aside0.mk ((by rw [hg]; exact (below_size (by repeat (first | (with_reducible first | exact HB.out | apply below_alloc | apply pw_below_drewN | apply below_drew1 | refine below_set ?_ GE145.out) | exact HB.out))) : w.heap.size ≤ gb146)); have n5_ := Aside0.mk ((by rw [hg]; exact Nat.ne_of_lt (blk_lt (g := gb145) (o := .cells #[.int .i64 0, .int .i64 0, .int .i64 0, .int .i64 0, .int .i64 0, .int .i64 0, .int .i64 0, .int .i64 0] 37 (0, 0)) (by (with_reducible repeat (first | refine blk_drewN ?_ _ | refine blk_drew ?_ | refine blk_alloc ?_ _)); exact BK145.out)) : gb145 ≠ gb146)); have n6_ := Aside0.mk ((by rw [hg]; exact Nat.ne_of_gt (blk_lt (g := gb145) (o := .cells #[.int .i64 0, .int .i64 0, .int .i64 0, .int .i64 0, .int .i64 0, .int .i64 0, .int .i64 0, .int .i64 0] 37 (0, 0)) (by (with_reducible repeat (first | refine blk_drewN ?_ _ | refine blk_drew ?_ | refine blk_alloc ?_ _)); exact BK145.out)) : gb146 ≠ gb145)); clear BK145; clear HB; have BK145 := n0_; have HB := n1_; have BK146 := n2_; have GW146 := n3_; have GE146 := n4_; have NB145_146 := n5_; have NB146_145 := n6_; clear n0_ n1_ n2_ n3_ n4_ n5_ n6_; clear hb hbox hg; have hnb30 := NB145_146.out; have hnc30 := NB146_145.out; have hcz31_0 : w29.cell? ⟨gb145, 0, none⟩ = some (.int .i64 0) := (blk_cell BK145.out 0).trans rfl; have hcz31_1 : w29.cell? ⟨gb145, 1, none⟩ = some (.int .i64 0) := (blk_cell BK145.out 1).trans rfl; have hcz31_2 : w29.cell? ⟨gb145, 2, none⟩ = some (.int .i64 0) := (blk_cell BK145.out 2).trans rfl; have hcz31_3 : w29.cell? ⟨gb145, 3, none⟩ = some (.int .i64 0) := (blk_cell BK145.out 3).trans rfl; have hcz31_4 : w29.cell? ⟨gb145, 4, none⟩ = some (.int .i64 0) := (blk_cell BK145.out 4).trans rfl; have hcz31_5 : w29.cell? ⟨gb145, 5, none⟩ = some (.int .i64 0) := (blk_cell BK145.out 5).trans rfl; have hcz31_6 : w29.cell? ⟨gb145, 6, none⟩ = some (.int .i64 0) := (blk_cell BK145.out 6).trans rfl; have hcz31_7 : w29.cell? ⟨gb145, 7, none⟩ = some (.int .i64 0) := (blk_cell BK145.out 7).trans rfl; have hfz31_0 := blk_frozen BK145.out 0; have hfz31_1 := blk_frozen BK145.out 1; have hfz31_2 := blk_frozen BK145.out 2; have hfz31_3 := blk_frozen BK145.out 3; have hfz31_4 := blk_frozen BK145.out 4; have hfz31_5 := blk_frozen BK145.out 5; have hfz31_6 := blk_frozen BK145.out 6; have hfz31_7 := blk_frozen BK145.out 7) | ((with_reducible refine gate_store (t := 37) (p := 5) rfl ?_); (try (rw [drewN_self w29]; generalize hq_ : World.drewN w29 _ = w29; have n0_ := Aside0.mk (blk_at hq_ BK145.out); have n1_ := Aside0.mk (blk_at hq_ BK146.out); have n2_ := Aside0.mk (below_at hq_ HB.out); clear hq_ BK145 BK146 HB; have BK145 := n0_; have BK146 := n1_; have HB := n2_; clear n0_ n1_ n2_)); refine store_event (t := 37) (p := 5) (v := ?vo_w32) (w1 := ((((((((w29.setCell ⟨gb145, 0, none⟩ (.int .i64 t129)).setCell ⟨gb145, 1, none⟩ (.int .i64 t130)).setCell ⟨gb145, 2, none⟩ (.int .i64 t131)).setCell ⟨gb145, 3, none⟩ (.int .i64 t132)).setCell ⟨gb145, 4, none⟩ (.int .i64 t133)).setCell ⟨gb145, 5, none⟩ (.int .i64 t134)).setCell ⟨gb145, 6, none⟩ (.int .i64 t135)).setCell ⟨gb145, 7, none⟩ (.int .i64 t136))) ?hg ?ho ?hn ?hr ?_; (case ho => rfl); (case hg => rfl); (case hn => rfl); (case hr => first | (go_simp; done) | (go_simp; rfl)); intro w32 hw; have n0_ : Aside0 (w32.heap[gb145]? = some (.cells #[.int .i64 t129, .int .i64 t130, .int .i64 t131, .int .i64 t132, .int .i64 t133, .int .i64 t134, .int .i64 t135, .int .i64 t136] 37 (0, 0))) := ⟨(by rw [hw]; exact (by (with_reducible repeat (first | refine blk_drewN ?_ _ | refine blk_drew ?_ | refine blk_alloc ?_ _)); refine blk_put (cs := #[.int .i64 t129, .int .i64 t130, .int .i64 t131, .int .i64 t132, .int .i64 t133, .int .i64 t134, .int .i64 t135, .int .i64 0]) ?_ 7 _ (by first | rfl | (simp; done)); (with_reducible repeat (first | refine blk_drewN ?_ _ | refine blk_drew ?_ | refine blk_alloc ?_ _)); refine blk_put (cs := #[.int .i64 t129, .int .i64 t130, .int .i64 t131, .int .i64 t132, .int .i64 t133, .int .i64 t134, .int .i64 0, .int .i64 0]) ?_ 6 _ (by first | rfl | (simp; done)); (with_reducible repeat (first | refine blk_drewN ?_ _ | refine blk_drew ?_ | refine blk_alloc ?_ _)); refine blk_put (cs := #[.int .i64 t129, .int .i64 t130, .int .i64 t131, .int .i64 t132, .int .i64 t133, .int .i64 0, .int .i64 0, .int .i64 0]) ?_ 5 _ (by first | rfl | (simp; done)); (with_reducible repeat (first | refine blk_drewN ?_ _ | refine blk_drew ?_ | refine blk_alloc ?_ _)); refine blk_put (cs := #[.int .i64 t129, .int .i64 t130, .int .i64 t131, .int .i64 t132, .int .i64 0, .int .i64 0, .int .i64 0, .int .i64 0]) ?_ 4 _ (by first | rfl | (simp; done)); (with_reducible repeat (first | refine blk_drewN ?_ _ | refine blk_drew ?_ | refine blk_alloc ?_ _)); refine blk_put (cs := #[.int .i64 t129, .int .i64 t130, .int .i64 t131, .int .i64 0, .int .i64 0, .int .i64 0, .int .i64 0, .int .i64 0]) ?_ 3 _ (by first | rfl | (simp; done)); (with_reducible repeat (first | refine blk_drewN ?_ _ | refine blk_drew ?_ | refine blk_alloc ?_ _)); refine blk_put (cs := #[.int .i64 t129, .int .i64 t130, .int .i64 0, .int .i64 0, .int .i64 0, .int .i64 0, .int .i64 0, .int .i64 0]) ?_ 2 _ (by first | rfl | (simp; done)); (with_reducible repeat (first | refine blk_drewN ?_ _ | refine blk_drew ?_ | refine blk_alloc ?_ _)); refine blk_put (cs := #[.int .i64 t129, .int .i64 0, .int .i64 0, .int .i64 0, .int .i64 0, .int .i64 0, .int .i64 0, .int .i64 0]) ?_ 1 _ (by first | rfl | (simp; done)); (with_reducible repeat (first | refine blk_drewN ?_ _ | refine blk_drew ?_ | refine blk_alloc ?_ _)); refine blk_put (cs := #[.int .i64 0, .int .i64 0, .int .i64 0, .int .i64 0, .int .i64 0, .int .i64 0, .int .i64 0, .int .i64 0]) ?_ 0 _ (by first | rfl | (simp; done)); (with_reducible repeat (first | refine blk_drewN ?_ _ | refine blk_drew ?_ | refine blk_alloc ?_ _)); exact BK145.out))⟩; have n1_ : Aside0 (w32.heap[gb146]? = some (.cells #[.int .i64 0, .int .i64 0, .int .i64 0, .int .i64 0, .int .i64 0, .int .i64 0, .int .i64 0, .int .i64 0] 37 (0, 0))) := ⟨(by rw [hw]; exact (by (with_reducible repeat (first | refine blk_drewN ?_ _ | refine blk_drew ?_ | refine blk_alloc ?_ _)); refine blk_far ?_ NB146_145.out _; (with_reducible repeat (first | refine blk_drewN ?_ _ | refine blk_drew ?_ | refine blk_alloc ?_ _)); refine blk_far ?_ NB146_145.out _; (with_reducible repeat (first | refine blk_drewN ?_ _ | refine blk_drew ?_ | refine blk_alloc ?_ _)); refine blk_far ?_ NB146_145.out _; (with_reducible repeat (first | refine blk_drewN ?_ _ | refine blk_drew ?_ | refine blk_alloc ?_ _)); refine blk_far ?_ NB146_145.out _; (with_reducible repeat (first | refine blk_drewN ?_ _ | refine blk_drew ?_ | refine blk_alloc ?_ _)); refine blk_far ?_ NB146_145.out _; (with_reducible repeat (first | refine blk_drewN ?_ _ | refine blk_drew ?_ | refine blk_alloc ?_ _)); refine blk_far ?_ NB146_145.out _; (with_reducible repeat (first | refine blk_drewN ?_ _ | refine blk_drew ?_ | refine blk_alloc ?_ _)); refine blk_far ?_ NB146_145.out _; (with_reducible repeat (first | refine blk_drewN ?_ _ | refine blk_drew ?_ | refine blk_alloc ?_ _)); refine blk_far ?_ NB146_145.out _; (with_reducible repeat (first | refine blk_drewN ?_ _ | refine blk_drew ?_ | refine blk_alloc ?_ _)); exact BK146.out))⟩; have n2_ : Aside0 (Below w.heap.size w w32) := ⟨(by rw [hw]; exact (by repeat (first | (with_reducible first | exact HB.out | apply below_alloc | apply pw_below_drewN | apply below_drew1 | refine below_set ?_ GE145.out | refine below_set ?_ GE146.out) | exact HB.out)))⟩; clear hw; clear BK145; clear BK146; clear HB; have BK145 := n0_; have BK146 := n1_; have HB := n2_; clear n0_ n1_ n2_; have hcz33_0 : w32.cell? ⟨gb146, 0, none⟩ = some (.int .i64 0) := (blk_cell BK146.out 0).trans rfl; have hcz33_1 : w32.cell? ⟨gb146, 1, none⟩ = some (.int .i64 0) := (blk_cell BK146.out 1).trans rfl; have hcz33_2 : w32.cell? ⟨gb146, 2, none⟩ = some (.int .i64 0) := (blk_cell BK146.out 2).trans rfl; have hcz33_3 : w32.cell? ⟨gb146, 3, none⟩ = some (.int .i64 0) := (blk_cell BK146.out 3).trans rfl; have hcz33_4 : w32.cell? ⟨gb146, 4, none⟩ = some (.int .i64 0) := (blk_cell BK146.out 4).trans rfl; have hcz33_5 : w32.cell? ⟨gb146, 5, none⟩ = some (.int .i64 0) := (blk_cell BK146.out 5).trans rfl; have hcz33_6 : w32.cell? ⟨gb146, 6, none⟩ = some (.int .i64 0) := (blk_cell BK146.out 6).trans rfl; have hcz33_7 : w32.cell? ⟨gb146, 7, none⟩ = some (.int .i64 0) := (blk_cell BK146.out 7).trans rfl; have hfz33_0 := blk_frozen BK146.out 0; have hfz33_1 := blk_frozen BK146.out 1; have hfz33_2 := blk_frozen BK146.out 2; have hfz33_3 := blk_frozen BK146.out 3; have hfz33_4 := blk_frozen BK146.out 4; have hfz33_5 := blk_frozen BK146.out 5; have hfz33_6 := blk_frozen BK146.out 6; have hfz33_7 := blk_frozen BK146.out 7) | ((with_reducible refine gate_store (t := 37) (p := 6) rfl ?_); (try (rw [drewN_self w32]; generalize hq_ : World.drewN w32 _ = w32; have n0_ := Aside0.mk (blk_at hq_ BK145.out); have n1_ := Aside0.mk (blk_at hq_ BK146.out); have n2_ := Aside0.mk (below_at hq_ HB.out); clear hq_ BK145 BK146 HB; have BK145 := n0_; have BK146 := n1_; have HB := n2_; clear n0_ n1_ n2_)); refine store_event (t := 37) (p := 6) (v := ?vo_w34) (w1 := ((((((((w32.setCell ⟨gb146, 0, none⟩ (.int .i64 t137)).setCell ⟨gb146, 1, none⟩ (.int .i64 t138)).setCell ⟨gb146, 2, none⟩ (.int .i64 t139)).setCell ⟨gb146, 3, none⟩ (.int .i64 t140)).setCell ⟨gb146, 4, none⟩ (.int .i64 t141)).setCell ⟨gb146, 5, none⟩ (.int .i64 t142)).setCell ⟨gb146, 6, none⟩ (.int .i64 t143)).setCell ⟨gb146, 7, none⟩ (.int .i64 t144))) ?hg ?ho ?hn ?hr ?_; (case ho => rfl); (case hg => rfl); (case hn => rfl); (case hr => first | (go_simp; done) | (go_simp; rfl)); intro w34 hw; have n0_ : Aside0 (w34.heap[gb145]? = some (.cells #[.int .i64 t129, .int .i64 t130, .int .i64 t131, .int .i64 t132, .int .i64 t133, .int .i64 t134, .int .i64 t135, .int .i64 t136] 37 (0, 0))) := ⟨(by rw [hw]; exact (by (with_reducible repeat (first | refine blk_drewN ?_ _ | refine blk_drew ?_ | refine blk_alloc ?_ _)); refine blk_far ?_ NB145_146.out _; (with_reducible repeat (first | refine blk_drewN ?_ _ | refine blk_drew ?_ | refine blk_alloc ?_ _)); refine blk_far ?_ NB145_146.out _; (with_reducible repeat (first | refine blk_drewN ?_ _ | refine blk_drew ?_ | refine blk_alloc ?_ _)); refine blk_far ?_ NB145_146.out _; (with_reducible repeat (first | refine blk_drewN ?_ _ | refine blk_drew ?_ | refine blk_alloc ?_ _)); refine blk_far ?_ NB145_146.out _; (with_reducible repeat (first | refine blk_drewN ?_ _ | refine blk_drew ?_ | refine blk_alloc ?_ _)); refine blk_far ?_ NB145_146.out _; (with_reducible repeat (first | refine blk_drewN ?_ _ | refine blk_drew ?_ | refine blk_alloc ?_ _)); refine blk_far ?_ NB145_146.out _; (with_reducible repeat (first | refine blk_drewN ?_ _ | refine blk_drew ?_ | refine blk_alloc ?_ _)); refine blk_far ?_ NB145_146.out _; (with_reducible repeat (first | refine blk_drewN ?_ _ | refine blk_drew ?_ | refine blk_alloc ?_ _)); refine blk_far ?_ NB145_146.out _; (with_reducible repeat (first | refine blk_drewN ?_ _ | refine blk_drew ?_ | refine blk_alloc ?_ _)); exact BK145.out))⟩; have n1_ : Aside0 (w34.heap[gb146]? = some (.cells #[.int .i64 t137, .int .i64 t138, .int .i64 t139, .int .i64 t140, .int .i64 t141, .int .i64 t142, .int .i64 t143, .int .i64 t144] 37 (0, 0))) := ⟨(by rw [hw]; exact (by (with_reducible repeat (first | refine blk_drewN ?_ _ | refine blk_drew ?_ | refine blk_alloc ?_ _)); refine blk_put (cs := #[.int .i64 t137, .int .i64 t138, .int .i64 t139, .int .i64 t140, .int .i64 t141, .int .i64 t142, .int .i64 t143, .int .i64 0]) ?_ 7 _ (by first | rfl | (simp; done)); (with_reducible repeat (first | refine blk_drewN ?_ _ | refine blk_drew ?_ | refine blk_alloc ?_ _)); refine blk_put (cs := #[.int .i64 t137, .int .i64 t138, .int .i64 t139, .int .i64 t140, .int .i64 t141, .int .i64 t142, .int .i64 0, .int .i64 0]) ?_ 6 _ (by first | rfl | (simp; done)); (with_reducible repeat (first | refine blk_drewN ?_ _ | refine blk_drew ?_ | refine blk_alloc ?_ _)); refine blk_put (cs := #[.int .i64 t137, .int .i64 t138, .int .i64 t139, .int .i64 t140, .int .i64 t141, .int .i64 0, .int .i64 0, .int .i64 0]) ?_ 5 _ (by first | rfl | (simp; done)); (with_reducible repeat (first | refine blk_drewN ?_ _ | refine blk_drew ?_ | refine blk_alloc ?_ _)); refine blk_put (cs := #[.int .i64 t137, .int .i64 t138, .int .i64 t139, .int .i64 t140, .int .i64 0, .int .i64 0, .int .i64 0, .int .i64 0]) ?_ 4 _ (by first | rfl | (simp; done)); (with_reducible repeat (first | refine blk_drewN ?_ _ | refine blk_drew ?_ | refine blk_alloc ?_ _)); refine blk_put (cs := #[.int .i64 t137, .int .i64 t138, .int .i64 t139, .int .i64 0, .int .i64 0, .int .i64 0, .int .i64 0, .int .i64 0]) ?_ 3 _ (by first | rfl | (simp; done)); (with_reducible repeat (first | refine blk_drewN ?_ _ | refine blk_drew ?_ | refine blk_alloc ?_ _)); refine blk_put (cs := #[.int .i64 t137, .int .i64 t138, .int .i64 0, .int .i64 0, .int .i64 0, .int .i64 0, .int .i64 0, .int .i64 0]) ?_ 2 _ (by first | rfl | (simp; done)); (with_reducible repeat (first | refine blk_drewN ?_ _ | refine blk_drew ?_ | refine blk_alloc ?_ _)); refine blk_put (cs := #[.int .i64 t137, .int .i64 0, .int .i64 0, .int .i64 0, .int .i64 0, .int .i64 0, .int .i64 0, .int .i64 0]) ?_ 1 _ (by first | rfl | (simp; done)); (with_reducible repeat (first | refine blk_drewN ?_ _ | refine blk_drew ?_ | refine blk_alloc ?_ _)); refine blk_put (cs := #[.int .i64 0, .int .i64 0, .int .i64 0, .int .i64 0, .int .i64 0, .int .i64 0, .int .i64 0, .int .i64 0]) ?_ 0 _ (by first | rfl | (simp; done)); (with_reducible repeat (first | refine blk_drewN ?_ _ | refine blk_drew ?_ | refine blk_alloc ?_ _)); exact BK146.out))⟩; have n2_ : Aside0 (Below w.heap.size w w34) := ⟨(by rw [hw]; exact (by repeat (first | (with_reducible first | exact HB.out | apply below_alloc | apply pw_below_drewN | apply below_drew1 | refine below_set ?_ GE145.out | refine below_set ?_ GE146.out) | exact HB.out)))⟩; clear hw; clear BK145; clear BK146; clear HB; have BK145 := n0_; have BK146 := n1_; have HB := n2_; clear n0_ n1_ n2_; have hcz35_0 : w34.cell? ⟨gb145, 0, none⟩ = some (.int .i64 t129) := (blk_cell BK145.out 0).trans rfl; have hcz35_1 : w34.cell? ⟨gb145, 1, none⟩ = some (.int .i64 t130) := (blk_cell BK145.out 1).trans rfl; have hcz35_2 : w34.cell? ⟨gb145, 2, none⟩ = some (.int .i64 t131) := (blk_cell BK145.out 2).trans rfl; have hcz35_3 : w34.cell? ⟨gb145, 3, none⟩ = some (.int .i64 t132) := (blk_cell BK145.out 3).trans rfl; have hcz35_4 : w34.cell? ⟨gb145, 4, none⟩ = some (.int .i64 t133) := (blk_cell BK145.out 4).trans rfl; have hcz35_5 : w34.cell? ⟨gb145, 5, none⟩ = some (.int .i64 t134) := (blk_cell BK145.out 5).trans rfl; have hcz35_6 : w34.cell? ⟨gb145, 6, none⟩ = some (.int .i64 t135) := (blk_cell BK145.out 6).trans rfl; have hcz35_7 : w34.cell? ⟨gb145, 7, none⟩ = some (.int .i64 t136) := (blk_cell BK145.out 7).trans rfl; have hfz35_0 := blk_frozen BK145.out 0; have hfz35_1 := blk_frozen BK145.out 1; have hfz35_2 := blk_frozen BK145.out 2; have hfz35_3 := blk_frozen BK145.out 3; have hfz35_4 := blk_frozen BK145.out 4; have hfz35_5 := blk_frozen BK145.out 5; have hfz35_6 := blk_frozen BK145.out 6; have hfz35_7 := blk_frozen BK145.out 7)))
          (try simp only [Act.put, List.setIfInBounds_toArray, List.set_cons_zero, List.set_cons_succ])
          go_cut [70] (fun v70 wc => ∃ (kq : Nat) (x70_24 : Bool), v70 = .bool x70_24 ∧ Aside0 (domesdaylaw04_DateNext.j1 kq x70_24 t129 t130 t131 t132 t133 t134 t135 t136 t137 t138 t139 t140 t141 t142 t143 t144 = some r) ∧ Aside0 (kq ≤ kj2) ∧ Aside0 (wc.heap[gb145]? = some (.cells #[.int .i64 t129, .int .i64 t130, .int .i64 t131, .int .i64 t132, .int .i64 t133, .int .i64 t134, .int .i64 t135, .int .i64 t136] 37 (0, 0))) ∧ Aside0 (wc.heap[gb146]? = some (.cells #[.int .i64 t137, .int .i64 t138, .int .i64 t139, .int .i64 t140, .int .i64 t141, .int .i64 t142, .int .i64 t143, .int .i64 t144] 37 (0, 0))) ∧ Aside0 (Below w.heap.size w wc))
          case first =>
            have H := HC25.out
            clear HC25
            by_cases c36 : t142 = 0
            · rw [if_pos c36] at H
              have c36b0 : (t142 == 0) = true := beq_iff_eq.mpr c36
              have c36b1 : (t142 != 0) = false := bne_eq_false_iff_eq.mpr c36
              clear c36
              (first | rw [c36b0] | (simp only [i64_w, i32_w]; rw [c36b0]) | skip)
              by_cases c37 : t133 < 59
              · rw [if_pos c37] at H
                have c37b0 : decide (t133 < 59) = true := decide_eq_true c37
                clear c37
                by_cases c38 : t141 = (wrap64 (t133 + 1))
                · rw [if_pos c38] at H
                  have c38b0 : (t141 == (wrap64 (t133 + 1))) = true := beq_iff_eq.mpr c38
                  have c38b1 : (t141 != (wrap64 (t133 + 1))) = false := bne_eq_false_iff_eq.mpr c38
                  clear c38
                  by_cases c39 : t140 = t132
                  · rw [if_pos c39] at H
                    have c39b0 : (t140 == t132) = true := beq_iff_eq.mpr c39
                    have c39b1 : (t140 != t132) = false := bne_eq_false_iff_eq.mpr c39
                    clear c39
                    by_cases c40 : t139 = t131
                    · rw [if_pos c40] at H
                      have c40b0 : (t139 == t131) = true := beq_iff_eq.mpr c40
                      have c40b1 : (t139 != t131) = false := bne_eq_false_iff_eq.mpr c40
                      clear c40
                      by_cases c41 : t133 = 59
                      · rw [if_pos c41] at H
                        have c41b0 : (t133 == 59) = true := beq_iff_eq.mpr c41
                        have c41b1 : (t133 != 59) = false := bne_eq_false_iff_eq.mpr c41
                        clear c41
                        have H' := Aside0.mk H
                        clear H
                        have hnb42 := NB146_145.out
                        have hnc42 := NB145_146.out
                        have hcz43_0 : w34.cell? ⟨gb146, 0, none⟩ = some (.int .i64 t137) := (blk_cell BK146.out 0).trans rfl
                        have hcz43_1 : w34.cell? ⟨gb146, 1, none⟩ = some (.int .i64 t138) := (blk_cell BK146.out 1).trans rfl
                        have hcz43_2 : w34.cell? ⟨gb146, 2, none⟩ = some (.int .i64 t139) := (blk_cell BK146.out 2).trans rfl
                        have hcz43_3 : w34.cell? ⟨gb146, 3, none⟩ = some (.int .i64 t140) := (blk_cell BK146.out 3).trans rfl
                        have hcz43_4 : w34.cell? ⟨gb146, 4, none⟩ = some (.int .i64 t141) := (blk_cell BK146.out 4).trans rfl
                        have hcz43_5 : w34.cell? ⟨gb146, 5, none⟩ = some (.int .i64 t142) := (blk_cell BK146.out 5).trans rfl
                        have hcz43_6 : w34.cell? ⟨gb146, 6, none⟩ = some (.int .i64 t143) := (blk_cell BK146.out 6).trans rfl
                        have hcz43_7 : w34.cell? ⟨gb146, 7, none⟩ = some (.int .i64 t144) := (blk_cell BK146.out 7).trans rfl
                        have hfz43_0 := blk_frozen BK146.out 0
                        have hfz43_1 := blk_frozen BK146.out 1
                        have hfz43_2 := blk_frozen BK146.out 2
                        have hfz43_3 := blk_frozen BK146.out 3
                        have hfz43_4 := blk_frozen BK146.out 4
                        have hfz43_5 := blk_frozen BK146.out 5
                        have hfz43_6 := blk_frozen BK146.out 6
                        have hfz43_7 := blk_frozen BK146.out 7
                        have hcz44_0 : w34.cell? ⟨gb145, 0, none⟩ = some (.int .i64 t129) := (blk_cell BK145.out 0).trans rfl
                        have hcz44_1 : w34.cell? ⟨gb145, 1, none⟩ = some (.int .i64 t130) := (blk_cell BK145.out 1).trans rfl
                        have hcz44_2 : w34.cell? ⟨gb145, 2, none⟩ = some (.int .i64 t131) := (blk_cell BK145.out 2).trans rfl
                        have hcz44_3 : w34.cell? ⟨gb145, 3, none⟩ = some (.int .i64 t132) := (blk_cell BK145.out 3).trans rfl
                        have hcz44_4 : w34.cell? ⟨gb145, 4, none⟩ = some (.int .i64 t133) := (blk_cell BK145.out 4).trans rfl
                        have hcz44_5 : w34.cell? ⟨gb145, 5, none⟩ = some (.int .i64 t134) := (blk_cell BK145.out 5).trans rfl
                        have hcz44_6 : w34.cell? ⟨gb145, 6, none⟩ = some (.int .i64 t135) := (blk_cell BK145.out 6).trans rfl
                        have hcz44_7 : w34.cell? ⟨gb145, 7, none⟩ = some (.int .i64 t136) := (blk_cell BK145.out 7).trans rfl
                        have hfz44_0 := blk_frozen BK145.out 0
                        have hfz44_1 := blk_frozen BK145.out 1
                        have hfz44_2 := blk_frozen BK145.out 2
                        have hfz44_3 := blk_frozen BK145.out 3
                        have hfz44_4 := blk_frozen BK145.out 4
                        have hfz44_5 := blk_frozen BK145.out 5
                        have hfz44_6 := blk_frozen BK145.out 6
                        have hfz44_7 := blk_frozen BK145.out 7
                        go_wp2
                        repeat (go_quiet (fail); try go_wp2)
                        go_meet
                        case rel => exact ⟨_, ((t141 != 0)), (by first | rfl | (simp; done) | (simp [*]; done)), H', ⟨by have := HJ2.out; first | omega | exact Nat.le_refl _⟩, ⟨by (with_reducible repeat (first | refine blk_drewN ?_ _ | refine blk_drew ?_ | refine blk_alloc ?_ _)); exact BK145.out⟩, ⟨by (with_reducible repeat (first | refine blk_drewN ?_ _ | refine blk_drew ?_ | refine blk_alloc ?_ _)); exact BK146.out⟩, ⟨by repeat (first | (with_reducible first | exact HB.out | apply below_alloc | apply pw_below_drewN | apply below_drew1 | refine below_set ?_ GE145.out | refine below_set ?_ GE146.out) | exact HB.out)⟩⟩
                      · rw [if_neg c41] at H
                        have c41b0 : (t133 == 59) = false := beq_eq_false_iff_ne.mpr c41
                        have c41b1 : (t133 != 59) = true := bne_iff_ne.mpr c41
                        have H' := Aside0.mk H
                        clear H
                        have hnb45 := NB146_145.out
                        have hnc45 := NB145_146.out
                        have hcz46_0 : w34.cell? ⟨gb146, 0, none⟩ = some (.int .i64 t137) := (blk_cell BK146.out 0).trans rfl
                        have hcz46_1 : w34.cell? ⟨gb146, 1, none⟩ = some (.int .i64 t138) := (blk_cell BK146.out 1).trans rfl
                        have hcz46_2 : w34.cell? ⟨gb146, 2, none⟩ = some (.int .i64 t139) := (blk_cell BK146.out 2).trans rfl
                        have hcz46_3 : w34.cell? ⟨gb146, 3, none⟩ = some (.int .i64 t140) := (blk_cell BK146.out 3).trans rfl
                        have hcz46_4 : w34.cell? ⟨gb146, 4, none⟩ = some (.int .i64 t141) := (blk_cell BK146.out 4).trans rfl
                        have hcz46_5 : w34.cell? ⟨gb146, 5, none⟩ = some (.int .i64 t142) := (blk_cell BK146.out 5).trans rfl
                        have hcz46_6 : w34.cell? ⟨gb146, 6, none⟩ = some (.int .i64 t143) := (blk_cell BK146.out 6).trans rfl
                        have hcz46_7 : w34.cell? ⟨gb146, 7, none⟩ = some (.int .i64 t144) := (blk_cell BK146.out 7).trans rfl
                        have hfz46_0 := blk_frozen BK146.out 0
                        have hfz46_1 := blk_frozen BK146.out 1
                        have hfz46_2 := blk_frozen BK146.out 2
                        have hfz46_3 := blk_frozen BK146.out 3
                        have hfz46_4 := blk_frozen BK146.out 4
                        have hfz46_5 := blk_frozen BK146.out 5
                        have hfz46_6 := blk_frozen BK146.out 6
                        have hfz46_7 := blk_frozen BK146.out 7
                        have hcz47_0 : w34.cell? ⟨gb145, 0, none⟩ = some (.int .i64 t129) := (blk_cell BK145.out 0).trans rfl
                        have hcz47_1 : w34.cell? ⟨gb145, 1, none⟩ = some (.int .i64 t130) := (blk_cell BK145.out 1).trans rfl
                        have hcz47_2 : w34.cell? ⟨gb145, 2, none⟩ = some (.int .i64 t131) := (blk_cell BK145.out 2).trans rfl
                        have hcz47_3 : w34.cell? ⟨gb145, 3, none⟩ = some (.int .i64 t132) := (blk_cell BK145.out 3).trans rfl
                        have hcz47_4 : w34.cell? ⟨gb145, 4, none⟩ = some (.int .i64 t133) := (blk_cell BK145.out 4).trans rfl
                        have hcz47_5 : w34.cell? ⟨gb145, 5, none⟩ = some (.int .i64 t134) := (blk_cell BK145.out 5).trans rfl
                        have hcz47_6 : w34.cell? ⟨gb145, 6, none⟩ = some (.int .i64 t135) := (blk_cell BK145.out 6).trans rfl
                        have hcz47_7 : w34.cell? ⟨gb145, 7, none⟩ = some (.int .i64 t136) := (blk_cell BK145.out 7).trans rfl
                        have hfz47_0 := blk_frozen BK145.out 0
                        have hfz47_1 := blk_frozen BK145.out 1
                        have hfz47_2 := blk_frozen BK145.out 2
                        have hfz47_3 := blk_frozen BK145.out 3
                        have hfz47_4 := blk_frozen BK145.out 4
                        have hfz47_5 := blk_frozen BK145.out 5
                        have hfz47_6 := blk_frozen BK145.out 6
                        have hfz47_7 := blk_frozen BK145.out 7
                        go_wp2
                        repeat (go_quiet (fail); try go_wp2)
                        go_meet
                        case rel => exact ⟨_, (false), (by first | rfl | (simp; done) | (simp [*]; done)), H', ⟨by have := HJ2.out; first | omega | exact Nat.le_refl _⟩, ⟨by (with_reducible repeat (first | refine blk_drewN ?_ _ | refine blk_drew ?_ | refine blk_alloc ?_ _)); exact BK145.out⟩, ⟨by (with_reducible repeat (first | refine blk_drewN ?_ _ | refine blk_drew ?_ | refine blk_alloc ?_ _)); exact BK146.out⟩, ⟨by repeat (first | (with_reducible first | exact HB.out | apply below_alloc | apply pw_below_drewN | apply below_drew1 | refine below_set ?_ GE145.out | refine below_set ?_ GE146.out) | exact HB.out)⟩⟩
                    · rw [if_neg c40] at H
                      have c40b0 : (t139 == t131) = false := beq_eq_false_iff_ne.mpr c40
                      have c40b1 : (t139 != t131) = true := bne_iff_ne.mpr c40
                      have H' := Aside0.mk H
                      clear H
                      have hnb48 := NB146_145.out
                      have hnc48 := NB145_146.out
                      have hcz49_0 : w34.cell? ⟨gb146, 0, none⟩ = some (.int .i64 t137) := (blk_cell BK146.out 0).trans rfl
                      have hcz49_1 : w34.cell? ⟨gb146, 1, none⟩ = some (.int .i64 t138) := (blk_cell BK146.out 1).trans rfl
                      have hcz49_2 : w34.cell? ⟨gb146, 2, none⟩ = some (.int .i64 t139) := (blk_cell BK146.out 2).trans rfl
                      have hcz49_3 : w34.cell? ⟨gb146, 3, none⟩ = some (.int .i64 t140) := (blk_cell BK146.out 3).trans rfl
                      have hcz49_4 : w34.cell? ⟨gb146, 4, none⟩ = some (.int .i64 t141) := (blk_cell BK146.out 4).trans rfl
                      have hcz49_5 : w34.cell? ⟨gb146, 5, none⟩ = some (.int .i64 t142) := (blk_cell BK146.out 5).trans rfl
                      have hcz49_6 : w34.cell? ⟨gb146, 6, none⟩ = some (.int .i64 t143) := (blk_cell BK146.out 6).trans rfl
                      have hcz49_7 : w34.cell? ⟨gb146, 7, none⟩ = some (.int .i64 t144) := (blk_cell BK146.out 7).trans rfl
                      have hfz49_0 := blk_frozen BK146.out 0
                      have hfz49_1 := blk_frozen BK146.out 1
                      have hfz49_2 := blk_frozen BK146.out 2
                      have hfz49_3 := blk_frozen BK146.out 3
                      have hfz49_4 := blk_frozen BK146.out 4
                      have hfz49_5 := blk_frozen BK146.out 5
                      have hfz49_6 := blk_frozen BK146.out 6
                      have hfz49_7 := blk_frozen BK146.out 7
                      have hcz50_0 : w34.cell? ⟨gb145, 0, none⟩ = some (.int .i64 t129) := (blk_cell BK145.out 0).trans rfl
                      have hcz50_1 : w34.cell? ⟨gb145, 1, none⟩ = some (.int .i64 t130) := (blk_cell BK145.out 1).trans rfl
                      have hcz50_2 : w34.cell? ⟨gb145, 2, none⟩ = some (.int .i64 t131) := (blk_cell BK145.out 2).trans rfl
                      have hcz50_3 : w34.cell? ⟨gb145, 3, none⟩ = some (.int .i64 t132) := (blk_cell BK145.out 3).trans rfl
                      have hcz50_4 : w34.cell? ⟨gb145, 4, none⟩ = some (.int .i64 t133) := (blk_cell BK145.out 4).trans rfl
                      have hcz50_5 : w34.cell? ⟨gb145, 5, none⟩ = some (.int .i64 t134) := (blk_cell BK145.out 5).trans rfl
                      have hcz50_6 : w34.cell? ⟨gb145, 6, none⟩ = some (.int .i64 t135) := (blk_cell BK145.out 6).trans rfl
                      have hcz50_7 : w34.cell? ⟨gb145, 7, none⟩ = some (.int .i64 t136) := (blk_cell BK145.out 7).trans rfl
                      have hfz50_0 := blk_frozen BK145.out 0
                      have hfz50_1 := blk_frozen BK145.out 1
                      have hfz50_2 := blk_frozen BK145.out 2
                      have hfz50_3 := blk_frozen BK145.out 3
                      have hfz50_4 := blk_frozen BK145.out 4
                      have hfz50_5 := blk_frozen BK145.out 5
                      have hfz50_6 := blk_frozen BK145.out 6
                      have hfz50_7 := blk_frozen BK145.out 7
                      go_wp2
                      repeat (go_quiet (fail); try go_wp2)
                      go_meet
                      case rel => exact ⟨_, (true), (by first | rfl | (simp; done) | (simp [*]; done)), H', ⟨by have := HJ2.out; first | omega | exact Nat.le_refl _⟩, ⟨by (with_reducible repeat (first | refine blk_drewN ?_ _ | refine blk_drew ?_ | refine blk_alloc ?_ _)); exact BK145.out⟩, ⟨by (with_reducible repeat (first | refine blk_drewN ?_ _ | refine blk_drew ?_ | refine blk_alloc ?_ _)); exact BK146.out⟩, ⟨by repeat (first | (with_reducible first | exact HB.out | apply below_alloc | apply pw_below_drewN | apply below_drew1 | refine below_set ?_ GE145.out | refine below_set ?_ GE146.out) | exact HB.out)⟩⟩
                  · rw [if_neg c39] at H
                    have c39b0 : (t140 == t132) = false := beq_eq_false_iff_ne.mpr c39
                    have c39b1 : (t140 != t132) = true := bne_iff_ne.mpr c39
                    have H' := Aside0.mk H
                    clear H
                    have hnb51 := NB146_145.out
                    have hnc51 := NB145_146.out
                    have hcz52_0 : w34.cell? ⟨gb146, 0, none⟩ = some (.int .i64 t137) := (blk_cell BK146.out 0).trans rfl
                    have hcz52_1 : w34.cell? ⟨gb146, 1, none⟩ = some (.int .i64 t138) := (blk_cell BK146.out 1).trans rfl
                    have hcz52_2 : w34.cell? ⟨gb146, 2, none⟩ = some (.int .i64 t139) := (blk_cell BK146.out 2).trans rfl
                    have hcz52_3 : w34.cell? ⟨gb146, 3, none⟩ = some (.int .i64 t140) := (blk_cell BK146.out 3).trans rfl
                    have hcz52_4 : w34.cell? ⟨gb146, 4, none⟩ = some (.int .i64 t141) := (blk_cell BK146.out 4).trans rfl
                    have hcz52_5 : w34.cell? ⟨gb146, 5, none⟩ = some (.int .i64 t142) := (blk_cell BK146.out 5).trans rfl
                    have hcz52_6 : w34.cell? ⟨gb146, 6, none⟩ = some (.int .i64 t143) := (blk_cell BK146.out 6).trans rfl
                    have hcz52_7 : w34.cell? ⟨gb146, 7, none⟩ = some (.int .i64 t144) := (blk_cell BK146.out 7).trans rfl
                    have hfz52_0 := blk_frozen BK146.out 0
                    have hfz52_1 := blk_frozen BK146.out 1
                    have hfz52_2 := blk_frozen BK146.out 2
                    have hfz52_3 := blk_frozen BK146.out 3
                    have hfz52_4 := blk_frozen BK146.out 4
                    have hfz52_5 := blk_frozen BK146.out 5
                    have hfz52_6 := blk_frozen BK146.out 6
                    have hfz52_7 := blk_frozen BK146.out 7
                    have hcz53_0 : w34.cell? ⟨gb145, 0, none⟩ = some (.int .i64 t129) := (blk_cell BK145.out 0).trans rfl
                    have hcz53_1 : w34.cell? ⟨gb145, 1, none⟩ = some (.int .i64 t130) := (blk_cell BK145.out 1).trans rfl
                    have hcz53_2 : w34.cell? ⟨gb145, 2, none⟩ = some (.int .i64 t131) := (blk_cell BK145.out 2).trans rfl
                    have hcz53_3 : w34.cell? ⟨gb145, 3, none⟩ = some (.int .i64 t132) := (blk_cell BK145.out 3).trans rfl
                    have hcz53_4 : w34.cell? ⟨gb145, 4, none⟩ = some (.int .i64 t133) := (blk_cell BK145.out 4).trans rfl
                    have hcz53_5 : w34.cell? ⟨gb145, 5, none⟩ = some (.int .i64 t134) := (blk_cell BK145.out 5).trans rfl
                    have hcz53_6 : w34.cell? ⟨gb145, 6, none⟩ = some (.int .i64 t135) := (blk_cell BK145.out 6).trans rfl
                    have hcz53_7 : w34.cell? ⟨gb145, 7, none⟩ = some (.int .i64 t136) := (blk_cell BK145.out 7).trans rfl
                    have hfz53_0 := blk_frozen BK145.out 0
                    have hfz53_1 := blk_frozen BK145.out 1
                    have hfz53_2 := blk_frozen BK145.out 2
                    have hfz53_3 := blk_frozen BK145.out 3
                    have hfz53_4 := blk_frozen BK145.out 4
                    have hfz53_5 := blk_frozen BK145.out 5
                    have hfz53_6 := blk_frozen BK145.out 6
                    have hfz53_7 := blk_frozen BK145.out 7
                    go_wp2
                    repeat (go_quiet (fail); try go_wp2)
                    go_meet
                    case rel => exact ⟨_, (true), (by first | rfl | (simp; done) | (simp [*]; done)), H', ⟨by have := HJ2.out; first | omega | exact Nat.le_refl _⟩, ⟨by (with_reducible repeat (first | refine blk_drewN ?_ _ | refine blk_drew ?_ | refine blk_alloc ?_ _)); exact BK145.out⟩, ⟨by (with_reducible repeat (first | refine blk_drewN ?_ _ | refine blk_drew ?_ | refine blk_alloc ?_ _)); exact BK146.out⟩, ⟨by repeat (first | (with_reducible first | exact HB.out | apply below_alloc | apply pw_below_drewN | apply below_drew1 | refine below_set ?_ GE145.out | refine below_set ?_ GE146.out) | exact HB.out)⟩⟩
                · rw [if_neg c38] at H
                  have c38b0 : (t141 == (wrap64 (t133 + 1))) = false := beq_eq_false_iff_ne.mpr c38
                  have c38b1 : (t141 != (wrap64 (t133 + 1))) = true := bne_iff_ne.mpr c38
                  have H' := Aside0.mk H
                  clear H
                  have hnb54 := NB146_145.out
                  have hnc54 := NB145_146.out
                  have hcz55_0 : w34.cell? ⟨gb146, 0, none⟩ = some (.int .i64 t137) := (blk_cell BK146.out 0).trans rfl
                  have hcz55_1 : w34.cell? ⟨gb146, 1, none⟩ = some (.int .i64 t138) := (blk_cell BK146.out 1).trans rfl
                  have hcz55_2 : w34.cell? ⟨gb146, 2, none⟩ = some (.int .i64 t139) := (blk_cell BK146.out 2).trans rfl
                  have hcz55_3 : w34.cell? ⟨gb146, 3, none⟩ = some (.int .i64 t140) := (blk_cell BK146.out 3).trans rfl
                  have hcz55_4 : w34.cell? ⟨gb146, 4, none⟩ = some (.int .i64 t141) := (blk_cell BK146.out 4).trans rfl
                  have hcz55_5 : w34.cell? ⟨gb146, 5, none⟩ = some (.int .i64 t142) := (blk_cell BK146.out 5).trans rfl
                  have hcz55_6 : w34.cell? ⟨gb146, 6, none⟩ = some (.int .i64 t143) := (blk_cell BK146.out 6).trans rfl
                  have hcz55_7 : w34.cell? ⟨gb146, 7, none⟩ = some (.int .i64 t144) := (blk_cell BK146.out 7).trans rfl
                  have hfz55_0 := blk_frozen BK146.out 0
                  have hfz55_1 := blk_frozen BK146.out 1
                  have hfz55_2 := blk_frozen BK146.out 2
                  have hfz55_3 := blk_frozen BK146.out 3
                  have hfz55_4 := blk_frozen BK146.out 4
                  have hfz55_5 := blk_frozen BK146.out 5
                  have hfz55_6 := blk_frozen BK146.out 6
                  have hfz55_7 := blk_frozen BK146.out 7
                  have hcz56_0 : w34.cell? ⟨gb145, 0, none⟩ = some (.int .i64 t129) := (blk_cell BK145.out 0).trans rfl
                  have hcz56_1 : w34.cell? ⟨gb145, 1, none⟩ = some (.int .i64 t130) := (blk_cell BK145.out 1).trans rfl
                  have hcz56_2 : w34.cell? ⟨gb145, 2, none⟩ = some (.int .i64 t131) := (blk_cell BK145.out 2).trans rfl
                  have hcz56_3 : w34.cell? ⟨gb145, 3, none⟩ = some (.int .i64 t132) := (blk_cell BK145.out 3).trans rfl
                  have hcz56_4 : w34.cell? ⟨gb145, 4, none⟩ = some (.int .i64 t133) := (blk_cell BK145.out 4).trans rfl
                  have hcz56_5 : w34.cell? ⟨gb145, 5, none⟩ = some (.int .i64 t134) := (blk_cell BK145.out 5).trans rfl
                  have hcz56_6 : w34.cell? ⟨gb145, 6, none⟩ = some (.int .i64 t135) := (blk_cell BK145.out 6).trans rfl
                  have hcz56_7 : w34.cell? ⟨gb145, 7, none⟩ = some (.int .i64 t136) := (blk_cell BK145.out 7).trans rfl
                  have hfz56_0 := blk_frozen BK145.out 0
                  have hfz56_1 := blk_frozen BK145.out 1
                  have hfz56_2 := blk_frozen BK145.out 2
                  have hfz56_3 := blk_frozen BK145.out 3
                  have hfz56_4 := blk_frozen BK145.out 4
                  have hfz56_5 := blk_frozen BK145.out 5
                  have hfz56_6 := blk_frozen BK145.out 6
                  have hfz56_7 := blk_frozen BK145.out 7
                  go_wp2
                  repeat (go_quiet (fail); try go_wp2)
                  go_meet
                  case rel => exact ⟨_, (true), (by first | rfl | (simp; done) | (simp [*]; done)), H', ⟨by have := HJ2.out; first | omega | exact Nat.le_refl _⟩, ⟨by (with_reducible repeat (first | refine blk_drewN ?_ _ | refine blk_drew ?_ | refine blk_alloc ?_ _)); exact BK145.out⟩, ⟨by (with_reducible repeat (first | refine blk_drewN ?_ _ | refine blk_drew ?_ | refine blk_alloc ?_ _)); exact BK146.out⟩, ⟨by repeat (first | (with_reducible first | exact HB.out | apply below_alloc | apply pw_below_drewN | apply below_drew1 | refine below_set ?_ GE145.out | refine below_set ?_ GE146.out) | exact HB.out)⟩⟩
              · rw [if_neg c37] at H
                have c37b0 : decide (t133 < 59) = false := decide_eq_false c37
                clear c37
                by_cases c57 : t133 = 59
                · rw [if_pos c57] at H
                  have c57b0 : (t133 == 59) = true := beq_iff_eq.mpr c57
                  have c57b1 : (t133 != 59) = false := bne_eq_false_iff_eq.mpr c57
                  clear c57
                  have H' := Aside0.mk H
                  clear H
                  have hnb58 := NB146_145.out
                  have hnc58 := NB145_146.out
                  have hcz59_0 : w34.cell? ⟨gb146, 0, none⟩ = some (.int .i64 t137) := (blk_cell BK146.out 0).trans rfl
                  have hcz59_1 : w34.cell? ⟨gb146, 1, none⟩ = some (.int .i64 t138) := (blk_cell BK146.out 1).trans rfl
                  have hcz59_2 : w34.cell? ⟨gb146, 2, none⟩ = some (.int .i64 t139) := (blk_cell BK146.out 2).trans rfl
                  have hcz59_3 : w34.cell? ⟨gb146, 3, none⟩ = some (.int .i64 t140) := (blk_cell BK146.out 3).trans rfl
                  have hcz59_4 : w34.cell? ⟨gb146, 4, none⟩ = some (.int .i64 t141) := (blk_cell BK146.out 4).trans rfl
                  have hcz59_5 : w34.cell? ⟨gb146, 5, none⟩ = some (.int .i64 t142) := (blk_cell BK146.out 5).trans rfl
                  have hcz59_6 : w34.cell? ⟨gb146, 6, none⟩ = some (.int .i64 t143) := (blk_cell BK146.out 6).trans rfl
                  have hcz59_7 : w34.cell? ⟨gb146, 7, none⟩ = some (.int .i64 t144) := (blk_cell BK146.out 7).trans rfl
                  have hfz59_0 := blk_frozen BK146.out 0
                  have hfz59_1 := blk_frozen BK146.out 1
                  have hfz59_2 := blk_frozen BK146.out 2
                  have hfz59_3 := blk_frozen BK146.out 3
                  have hfz59_4 := blk_frozen BK146.out 4
                  have hfz59_5 := blk_frozen BK146.out 5
                  have hfz59_6 := blk_frozen BK146.out 6
                  have hfz59_7 := blk_frozen BK146.out 7
                  have hcz60_0 : w34.cell? ⟨gb145, 0, none⟩ = some (.int .i64 t129) := (blk_cell BK145.out 0).trans rfl
                  have hcz60_1 : w34.cell? ⟨gb145, 1, none⟩ = some (.int .i64 t130) := (blk_cell BK145.out 1).trans rfl
                  have hcz60_2 : w34.cell? ⟨gb145, 2, none⟩ = some (.int .i64 t131) := (blk_cell BK145.out 2).trans rfl
                  have hcz60_3 : w34.cell? ⟨gb145, 3, none⟩ = some (.int .i64 t132) := (blk_cell BK145.out 3).trans rfl
                  have hcz60_4 : w34.cell? ⟨gb145, 4, none⟩ = some (.int .i64 t133) := (blk_cell BK145.out 4).trans rfl
                  have hcz60_5 : w34.cell? ⟨gb145, 5, none⟩ = some (.int .i64 t134) := (blk_cell BK145.out 5).trans rfl
                  have hcz60_6 : w34.cell? ⟨gb145, 6, none⟩ = some (.int .i64 t135) := (blk_cell BK145.out 6).trans rfl
                  have hcz60_7 : w34.cell? ⟨gb145, 7, none⟩ = some (.int .i64 t136) := (blk_cell BK145.out 7).trans rfl
                  have hfz60_0 := blk_frozen BK145.out 0
                  have hfz60_1 := blk_frozen BK145.out 1
                  have hfz60_2 := blk_frozen BK145.out 2
                  have hfz60_3 := blk_frozen BK145.out 3
                  have hfz60_4 := blk_frozen BK145.out 4
                  have hfz60_5 := blk_frozen BK145.out 5
                  have hfz60_6 := blk_frozen BK145.out 6
                  have hfz60_7 := blk_frozen BK145.out 7
                  go_wp2
                  repeat (go_quiet (fail); try go_wp2)
                  go_meet
                  case rel => exact ⟨_, ((t141 != 0)), (by first | rfl | (simp; done) | (simp [*]; done)), H', ⟨by have := HJ2.out; first | omega | exact Nat.le_refl _⟩, ⟨by (with_reducible repeat (first | refine blk_drewN ?_ _ | refine blk_drew ?_ | refine blk_alloc ?_ _)); exact BK145.out⟩, ⟨by (with_reducible repeat (first | refine blk_drewN ?_ _ | refine blk_drew ?_ | refine blk_alloc ?_ _)); exact BK146.out⟩, ⟨by repeat (first | (with_reducible first | exact HB.out | apply below_alloc | apply pw_below_drewN | apply below_drew1 | refine below_set ?_ GE145.out | refine below_set ?_ GE146.out) | exact HB.out)⟩⟩
                · rw [if_neg c57] at H
                  have c57b0 : (t133 == 59) = false := beq_eq_false_iff_ne.mpr c57
                  have c57b1 : (t133 != 59) = true := bne_iff_ne.mpr c57
                  have H' := Aside0.mk H
                  clear H
                  have hnb61 := NB146_145.out
                  have hnc61 := NB145_146.out
                  have hcz62_0 : w34.cell? ⟨gb146, 0, none⟩ = some (.int .i64 t137) := (blk_cell BK146.out 0).trans rfl
                  have hcz62_1 : w34.cell? ⟨gb146, 1, none⟩ = some (.int .i64 t138) := (blk_cell BK146.out 1).trans rfl
                  have hcz62_2 : w34.cell? ⟨gb146, 2, none⟩ = some (.int .i64 t139) := (blk_cell BK146.out 2).trans rfl
                  have hcz62_3 : w34.cell? ⟨gb146, 3, none⟩ = some (.int .i64 t140) := (blk_cell BK146.out 3).trans rfl
                  have hcz62_4 : w34.cell? ⟨gb146, 4, none⟩ = some (.int .i64 t141) := (blk_cell BK146.out 4).trans rfl
                  have hcz62_5 : w34.cell? ⟨gb146, 5, none⟩ = some (.int .i64 t142) := (blk_cell BK146.out 5).trans rfl
                  have hcz62_6 : w34.cell? ⟨gb146, 6, none⟩ = some (.int .i64 t143) := (blk_cell BK146.out 6).trans rfl
                  have hcz62_7 : w34.cell? ⟨gb146, 7, none⟩ = some (.int .i64 t144) := (blk_cell BK146.out 7).trans rfl
                  have hfz62_0 := blk_frozen BK146.out 0
                  have hfz62_1 := blk_frozen BK146.out 1
                  have hfz62_2 := blk_frozen BK146.out 2
                  have hfz62_3 := blk_frozen BK146.out 3
                  have hfz62_4 := blk_frozen BK146.out 4
                  have hfz62_5 := blk_frozen BK146.out 5
                  have hfz62_6 := blk_frozen BK146.out 6
                  have hfz62_7 := blk_frozen BK146.out 7
                  have hcz63_0 : w34.cell? ⟨gb145, 0, none⟩ = some (.int .i64 t129) := (blk_cell BK145.out 0).trans rfl
                  have hcz63_1 : w34.cell? ⟨gb145, 1, none⟩ = some (.int .i64 t130) := (blk_cell BK145.out 1).trans rfl
                  have hcz63_2 : w34.cell? ⟨gb145, 2, none⟩ = some (.int .i64 t131) := (blk_cell BK145.out 2).trans rfl
                  have hcz63_3 : w34.cell? ⟨gb145, 3, none⟩ = some (.int .i64 t132) := (blk_cell BK145.out 3).trans rfl
                  have hcz63_4 : w34.cell? ⟨gb145, 4, none⟩ = some (.int .i64 t133) := (blk_cell BK145.out 4).trans rfl
                  have hcz63_5 : w34.cell? ⟨gb145, 5, none⟩ = some (.int .i64 t134) := (blk_cell BK145.out 5).trans rfl
                  have hcz63_6 : w34.cell? ⟨gb145, 6, none⟩ = some (.int .i64 t135) := (blk_cell BK145.out 6).trans rfl
                  have hcz63_7 : w34.cell? ⟨gb145, 7, none⟩ = some (.int .i64 t136) := (blk_cell BK145.out 7).trans rfl
                  have hfz63_0 := blk_frozen BK145.out 0
                  have hfz63_1 := blk_frozen BK145.out 1
                  have hfz63_2 := blk_frozen BK145.out 2
                  have hfz63_3 := blk_frozen BK145.out 3
                  have hfz63_4 := blk_frozen BK145.out 4
                  have hfz63_5 := blk_frozen BK145.out 5
                  have hfz63_6 := blk_frozen BK145.out 6
                  have hfz63_7 := blk_frozen BK145.out 7
                  go_wp2
                  repeat (go_quiet (fail); try go_wp2)
                  go_meet
                  case rel => exact ⟨_, (false), (by first | rfl | (simp; done) | (simp [*]; done)), H', ⟨by have := HJ2.out; first | omega | exact Nat.le_refl _⟩, ⟨by (with_reducible repeat (first | refine blk_drewN ?_ _ | refine blk_drew ?_ | refine blk_alloc ?_ _)); exact BK145.out⟩, ⟨by (with_reducible repeat (first | refine blk_drewN ?_ _ | refine blk_drew ?_ | refine blk_alloc ?_ _)); exact BK146.out⟩, ⟨by repeat (first | (with_reducible first | exact HB.out | apply below_alloc | apply pw_below_drewN | apply below_drew1 | refine below_set ?_ GE145.out | refine below_set ?_ GE146.out) | exact HB.out)⟩⟩
            · rw [if_neg c36] at H
              have c36b0 : (t142 == 0) = false := beq_eq_false_iff_ne.mpr c36
              have c36b1 : (t142 != 0) = true := bne_iff_ne.mpr c36
              (first | rw [c36b0] | (simp only [i64_w, i32_w]; rw [c36b0]) | skip)
              have H' := Aside0.mk H
              clear H
              have hnb64 := NB146_145.out
              have hnc64 := NB145_146.out
              have hcz65_0 : w34.cell? ⟨gb146, 0, none⟩ = some (.int .i64 t137) := (blk_cell BK146.out 0).trans rfl
              have hcz65_1 : w34.cell? ⟨gb146, 1, none⟩ = some (.int .i64 t138) := (blk_cell BK146.out 1).trans rfl
              have hcz65_2 : w34.cell? ⟨gb146, 2, none⟩ = some (.int .i64 t139) := (blk_cell BK146.out 2).trans rfl
              have hcz65_3 : w34.cell? ⟨gb146, 3, none⟩ = some (.int .i64 t140) := (blk_cell BK146.out 3).trans rfl
              have hcz65_4 : w34.cell? ⟨gb146, 4, none⟩ = some (.int .i64 t141) := (blk_cell BK146.out 4).trans rfl
              have hcz65_5 : w34.cell? ⟨gb146, 5, none⟩ = some (.int .i64 t142) := (blk_cell BK146.out 5).trans rfl
              have hcz65_6 : w34.cell? ⟨gb146, 6, none⟩ = some (.int .i64 t143) := (blk_cell BK146.out 6).trans rfl
              have hcz65_7 : w34.cell? ⟨gb146, 7, none⟩ = some (.int .i64 t144) := (blk_cell BK146.out 7).trans rfl
              have hfz65_0 := blk_frozen BK146.out 0
              have hfz65_1 := blk_frozen BK146.out 1
              have hfz65_2 := blk_frozen BK146.out 2
              have hfz65_3 := blk_frozen BK146.out 3
              have hfz65_4 := blk_frozen BK146.out 4
              have hfz65_5 := blk_frozen BK146.out 5
              have hfz65_6 := blk_frozen BK146.out 6
              have hfz65_7 := blk_frozen BK146.out 7
              go_wp2
              repeat (go_quiet (fail); try go_wp2)
              go_meet
              case rel => exact ⟨_, (true), (by first | rfl | (simp; done) | (simp [*]; done)), H', ⟨by have := HJ2.out; first | omega | exact Nat.le_refl _⟩, ⟨by (with_reducible repeat (first | refine blk_drewN ?_ _ | refine blk_drew ?_ | refine blk_alloc ?_ _)); exact BK145.out⟩, ⟨by (with_reducible repeat (first | refine blk_drewN ?_ _ | refine blk_drew ?_ | refine blk_alloc ?_ _)); exact BK146.out⟩, ⟨by repeat (first | (with_reducible first | exact HB.out | apply below_alloc | apply pw_below_drewN | apply below_drew1 | refine below_set ?_ GE145.out | refine below_set ?_ GE146.out) | exact HB.out)⟩⟩
          case rest =>
            clear HC25
            try clear c1
            try clear p2
            try clear c3
            try clear c4
            try clear c5
            try clear c6
            try clear p6
            try clear c7
            try clear c8
            try clear c13
            try clear c13b0
            try clear c18
            try clear c30
            try clear c36
            try clear c36b0
            try clear c36b1
            try clear c37
            try clear c37b0
            try clear c38
            try clear c38b0
            try clear c38b1
            try clear c39
            try clear c39b0
            try clear c39b1
            try clear c40
            try clear c40b0
            try clear c40b1
            try clear c41
            try clear c41b0
            try clear c41b1
            try clear c42
            try clear c45
            try clear c48
            try clear c51
            try clear c54
            try clear c57
            try clear c57b0
            try clear c57b1
            try clear c58
            try clear c61
            try clear c64
            try clear p64
            try clear hcz19_0
            try clear hcz19_1
            try clear hcz19_2
            try clear hcz19_3
            try clear hcz19_4
            try clear hcz19_5
            try clear hcz19_6
            try clear hcz19_7
            try clear hcz21_0
            try clear hcz21_1
            try clear hcz21_2
            try clear hcz21_3
            try clear hcz21_4
            try clear hcz21_5
            try clear hcz21_6
            try clear hcz21_7
            try clear hcz23_0
            try clear hcz23_1
            try clear hcz23_2
            try clear hcz23_3
            try clear hcz23_4
            try clear hcz23_5
            try clear hcz23_6
            try clear hcz23_7
            try clear hcz24_0
            try clear hcz24_1
            try clear hcz24_2
            try clear hcz24_3
            try clear hcz24_4
            try clear hcz24_5
            try clear hcz24_6
            try clear hcz24_7
            try clear hcz31_0
            try clear hcz31_1
            try clear hcz31_2
            try clear hcz31_3
            try clear hcz31_4
            try clear hcz31_5
            try clear hcz31_6
            try clear hcz31_7
            try clear hcz33_0
            try clear hcz33_1
            try clear hcz33_2
            try clear hcz33_3
            try clear hcz33_4
            try clear hcz33_5
            try clear hcz33_6
            try clear hcz33_7
            try clear hcz35_0
            try clear hcz35_1
            try clear hcz35_2
            try clear hcz35_3
            try clear hcz35_4
            try clear hcz35_5
            try clear hcz35_6
            try clear hcz35_7
            try clear hcz43_0
            try clear hcz43_1
            try clear hcz43_2
            try clear hcz43_3
            try clear hcz43_4
            try clear hcz43_5
            try clear hcz43_6
            try clear hcz43_7
            try clear hcz44_0
            try clear hcz44_1
            try clear hcz44_2
            try clear hcz44_3
            try clear hcz44_4
            try clear hcz44_5
            try clear hcz44_6
            try clear hcz44_7
            try clear hcz46_0
            try clear hcz46_1
            try clear hcz46_2
            try clear hcz46_3
            try clear hcz46_4
            try clear hcz46_5
            try clear hcz46_6
            try clear hcz46_7
            try clear hcz47_0
            try clear hcz47_1
            try clear hcz47_2
            try clear hcz47_3
            try clear hcz47_4
            try clear hcz47_5
            try clear hcz47_6
            try clear hcz47_7
            try clear hcz49_0
            try clear hcz49_1
            try clear hcz49_2
            try clear hcz49_3
            try clear hcz49_4
            try clear hcz49_5
            try clear hcz49_6
            try clear hcz49_7
            try clear hcz50_0
            try clear hcz50_1
            try clear hcz50_2
            try clear hcz50_3
            try clear hcz50_4
            try clear hcz50_5
            try clear hcz50_6
            try clear hcz50_7
            try clear hcz52_0
            try clear hcz52_1
            try clear hcz52_2
            try clear hcz52_3
            try clear hcz52_4
            try clear hcz52_5
            try clear hcz52_6
            try clear hcz52_7
            try clear hcz53_0
            try clear hcz53_1
            try clear hcz53_2
            try clear hcz53_3
            try clear hcz53_4
            try clear hcz53_5
            try clear hcz53_6
            try clear hcz53_7
            try clear hcz55_0
            try clear hcz55_1
            try clear hcz55_2
            try clear hcz55_3
            try clear hcz55_4
            try clear hcz55_5
            try clear hcz55_6
            try clear hcz55_7
            try clear hcz56_0
            try clear hcz56_1
            try clear hcz56_2
            try clear hcz56_3
            try clear hcz56_4
            try clear hcz56_5
            try clear hcz56_6
            try clear hcz56_7
            try clear hcz59_0
            try clear hcz59_1
            try clear hcz59_2
            try clear hcz59_3
            try clear hcz59_4
            try clear hcz59_5
            try clear hcz59_6
            try clear hcz59_7
            try clear hcz60_0
            try clear hcz60_1
            try clear hcz60_2
            try clear hcz60_3
            try clear hcz60_4
            try clear hcz60_5
            try clear hcz60_6
            try clear hcz60_7
            try clear hcz62_0
            try clear hcz62_1
            try clear hcz62_2
            try clear hcz62_3
            try clear hcz62_4
            try clear hcz62_5
            try clear hcz62_6
            try clear hcz62_7
            try clear hcz63_0
            try clear hcz63_1
            try clear hcz63_2
            try clear hcz63_3
            try clear hcz63_4
            try clear hcz63_5
            try clear hcz63_6
            try clear hcz63_7
            try clear hcz65_0
            try clear hcz65_1
            try clear hcz65_2
            try clear hcz65_3
            try clear hcz65_4
            try clear hcz65_5
            try clear hcz65_6
            try clear hcz65_7
            try clear hfz19_0
            try clear hfz19_1
            try clear hfz19_2
            try clear hfz19_3
            try clear hfz19_4
            try clear hfz19_5
            try clear hfz19_6
            try clear hfz19_7
            try clear hfz21_0
            try clear hfz21_1
            try clear hfz21_2
            try clear hfz21_3
            try clear hfz21_4
            try clear hfz21_5
            try clear hfz21_6
            try clear hfz21_7
            try clear hfz23_0
            try clear hfz23_1
            try clear hfz23_2
            try clear hfz23_3
            try clear hfz23_4
            try clear hfz23_5
            try clear hfz23_6
            try clear hfz23_7
            try clear hfz24_0
            try clear hfz24_1
            try clear hfz24_2
            try clear hfz24_3
            try clear hfz24_4
            try clear hfz24_5
            try clear hfz24_6
            try clear hfz24_7
            try clear hfz31_0
            try clear hfz31_1
            try clear hfz31_2
            try clear hfz31_3
            try clear hfz31_4
            try clear hfz31_5
            try clear hfz31_6
            try clear hfz31_7
            try clear hfz33_0
            try clear hfz33_1
            try clear hfz33_2
            try clear hfz33_3
            try clear hfz33_4
            try clear hfz33_5
            try clear hfz33_6
            try clear hfz33_7
            try clear hfz35_0
            try clear hfz35_1
            try clear hfz35_2
            try clear hfz35_3
            try clear hfz35_4
            try clear hfz35_5
            try clear hfz35_6
            try clear hfz35_7
            try clear hfz43_0
            try clear hfz43_1
            try clear hfz43_2
            try clear hfz43_3
            try clear hfz43_4
            try clear hfz43_5
            try clear hfz43_6
            try clear hfz43_7
            try clear hfz44_0
            try clear hfz44_1
            try clear hfz44_2
            try clear hfz44_3
            try clear hfz44_4
            try clear hfz44_5
            try clear hfz44_6
            try clear hfz44_7
            try clear hfz46_0
            try clear hfz46_1
            try clear hfz46_2
            try clear hfz46_3
            try clear hfz46_4
            try clear hfz46_5
            try clear hfz46_6
            try clear hfz46_7
            try clear hfz47_0
            try clear hfz47_1
            try clear hfz47_2
            try clear hfz47_3
            try clear hfz47_4
            try clear hfz47_5
            try clear hfz47_6
            try clear hfz47_7
            try clear hfz49_0
            try clear hfz49_1
            try clear hfz49_2
            try clear hfz49_3
            try clear hfz49_4
            try clear hfz49_5
            try clear hfz49_6
            try clear hfz49_7
            try clear hfz50_0
            try clear hfz50_1
            try clear hfz50_2
            try clear hfz50_3
            try clear hfz50_4
            try clear hfz50_5
            try clear hfz50_6
            try clear hfz50_7
            try clear hfz52_0
            try clear hfz52_1
            try clear hfz52_2
            try clear hfz52_3
            try clear hfz52_4
            try clear hfz52_5
            try clear hfz52_6
            try clear hfz52_7
            try clear hfz53_0
            try clear hfz53_1
            try clear hfz53_2
            try clear hfz53_3
            try clear hfz53_4
            try clear hfz53_5
            try clear hfz53_6
            try clear hfz53_7
            try clear hfz55_0
            try clear hfz55_1
            try clear hfz55_2
            try clear hfz55_3
            try clear hfz55_4
            try clear hfz55_5
            try clear hfz55_6
            try clear hfz55_7
            try clear hfz56_0
            try clear hfz56_1
            try clear hfz56_2
            try clear hfz56_3
            try clear hfz56_4
            try clear hfz56_5
            try clear hfz56_6
            try clear hfz56_7
            try clear hfz59_0
            try clear hfz59_1
            try clear hfz59_2
            try clear hfz59_3
            try clear hfz59_4
            try clear hfz59_5
            try clear hfz59_6
            try clear hfz59_7
            try clear hfz60_0
            try clear hfz60_1
            try clear hfz60_2
            try clear hfz60_3
            try clear hfz60_4
            try clear hfz60_5
            try clear hfz60_6
            try clear hfz60_7
            try clear hfz62_0
            try clear hfz62_1
            try clear hfz62_2
            try clear hfz62_3
            try clear hfz62_4
            try clear hfz62_5
            try clear hfz62_6
            try clear hfz62_7
            try clear hfz63_0
            try clear hfz63_1
            try clear hfz63_2
            try clear hfz63_3
            try clear hfz63_4
            try clear hfz63_5
            try clear hfz63_6
            try clear hfz63_7
            try clear hfz65_0
            try clear hfz65_1
            try clear hfz65_2
            try clear hfz65_3
            try clear hfz65_4
            try clear hfz65_5
            try clear hfz65_6
            try clear hfz65_7
            try clear p2
            obtain ⟨kq, x70_24, rfl, HA, HJ24, BK145, BK146, HB⟩ := hcut
            cases kq with
            | zero => exact absurd HA.out (by simp [domesdaylaw04_DateNext.j1])
            | succ kj24 =>
              have H := HA.out
              clear HA
              simp only [domesdaylaw04_DateNext.j1] at H
              by_cases c66 : x70_24 = true
              · subst c66
                have H1 : (none) = some r := by rw [if_pos rfl] at H; exact H
                clear H
                have H := H1
                clear H1
                exact absurd H (by simp)
              · replace c66 := Bool.eq_false_iff.mpr c66
                subst c66
                have H1 : (if t133 < 59 then (if t129 = t137 then (if t136 = t144 then (some (t135 == t143)) else (none)) else (none)) else (if t132 < 23 then (if t129 = t137 then (if t136 = t144 then (some (t135 == t143)) else (none)) else (none)) else (if t140 = 0 then (if t143 = (Int.tmod (wrap64 (t135 + 1)) 7) then (if t130 = 12 then (if t131 = 31 then (if t137 = (wrap64 (t129 + 1)) then (if t138 = 1 then (if t139 = 1 then (some (t144 == 1)) else (none)) else (none)) else (none)) else ((date_Days.f kj24 t129 t130).bind fun t147 => (if t131 = t147 then (if t137 = t129 then (if t138 = (wrap64 (t130 + 1)) then (if t139 = 1 then (some (t144 == (wrap64 (t136 + 1)))) else (none)) else (none)) else (none)) else (if t137 = t129 then (if t138 = t130 then (if t139 = (wrap64 (t131 + 1)) then (some (t144 == (wrap64 (t136 + 1)))) else (none)) else (none)) else (none))))) else ((date_Days.f kj24 t129 t130).bind fun t148 => (if t131 = t148 then (if t137 = t129 then (if t138 = (wrap64 (t130 + 1)) then (if t139 = 1 then (some (t144 == (wrap64 (t136 + 1)))) else (none)) else (none)) else (none)) else (if t137 = t129 then (if t138 = t130 then (if t139 = (wrap64 (t131 + 1)) then (some (t144 == (wrap64 (t136 + 1)))) else (none)) else (none)) else (none))))) else (none)) else (none)))) = some r := by rw [if_neg (show ¬ (false = true) by decide)] at H; exact H
                clear H
                have H := H1
                clear H1
                by_cases c67 : t133 < 59
                · rw [if_pos c67] at H
                  have c67b0 : decide (t133 < 59) = true := decide_eq_true c67
                  clear c67
                  by_cases c68 : t129 = t137
                  · rw [if_pos c68] at H
                    have c68b0 : (t129 == t137) = true := beq_iff_eq.mpr c68
                    have c68b1 : (t129 != t137) = false := bne_eq_false_iff_eq.mpr c68
                    clear c68
                    by_cases c69 : t136 = t144
                    · rw [if_pos c69] at H
                      have c69b0 : (t136 == t144) = true := beq_iff_eq.mpr c69
                      have c69b1 : (t136 != t144) = false := bne_eq_false_iff_eq.mpr c69
                      clear c69
                      obtain rfl := Option.some.inj H
                      have hnb70 := NB145_146.out
                      have hnc70 := NB146_145.out
                      have hcz71_0 : wc.cell? ⟨gb145, 0, none⟩ = some (.int .i64 t129) := (blk_cell BK145.out 0).trans rfl
                      have hcz71_1 : wc.cell? ⟨gb145, 1, none⟩ = some (.int .i64 t130) := (blk_cell BK145.out 1).trans rfl
                      have hcz71_2 : wc.cell? ⟨gb145, 2, none⟩ = some (.int .i64 t131) := (blk_cell BK145.out 2).trans rfl
                      have hcz71_3 : wc.cell? ⟨gb145, 3, none⟩ = some (.int .i64 t132) := (blk_cell BK145.out 3).trans rfl
                      have hcz71_4 : wc.cell? ⟨gb145, 4, none⟩ = some (.int .i64 t133) := (blk_cell BK145.out 4).trans rfl
                      have hcz71_5 : wc.cell? ⟨gb145, 5, none⟩ = some (.int .i64 t134) := (blk_cell BK145.out 5).trans rfl
                      have hcz71_6 : wc.cell? ⟨gb145, 6, none⟩ = some (.int .i64 t135) := (blk_cell BK145.out 6).trans rfl
                      have hcz71_7 : wc.cell? ⟨gb145, 7, none⟩ = some (.int .i64 t136) := (blk_cell BK145.out 7).trans rfl
                      have hfz71_0 := blk_frozen BK145.out 0
                      have hfz71_1 := blk_frozen BK145.out 1
                      have hfz71_2 := blk_frozen BK145.out 2
                      have hfz71_3 := blk_frozen BK145.out 3
                      have hfz71_4 := blk_frozen BK145.out 4
                      have hfz71_5 := blk_frozen BK145.out 5
                      have hfz71_6 := blk_frozen BK145.out 6
                      have hfz71_7 := blk_frozen BK145.out 7
                      have hcz72_0 : wc.cell? ⟨gb146, 0, none⟩ = some (.int .i64 t137) := (blk_cell BK146.out 0).trans rfl
                      have hcz72_1 : wc.cell? ⟨gb146, 1, none⟩ = some (.int .i64 t138) := (blk_cell BK146.out 1).trans rfl
                      have hcz72_2 : wc.cell? ⟨gb146, 2, none⟩ = some (.int .i64 t139) := (blk_cell BK146.out 2).trans rfl
                      have hcz72_3 : wc.cell? ⟨gb146, 3, none⟩ = some (.int .i64 t140) := (blk_cell BK146.out 3).trans rfl
                      have hcz72_4 : wc.cell? ⟨gb146, 4, none⟩ = some (.int .i64 t141) := (blk_cell BK146.out 4).trans rfl
                      have hcz72_5 : wc.cell? ⟨gb146, 5, none⟩ = some (.int .i64 t142) := (blk_cell BK146.out 5).trans rfl
                      have hcz72_6 : wc.cell? ⟨gb146, 6, none⟩ = some (.int .i64 t143) := (blk_cell BK146.out 6).trans rfl
                      have hcz72_7 : wc.cell? ⟨gb146, 7, none⟩ = some (.int .i64 t144) := (blk_cell BK146.out 7).trans rfl
                      have hfz72_0 := blk_frozen BK146.out 0
                      have hfz72_1 := blk_frozen BK146.out 1
                      have hfz72_2 := blk_frozen BK146.out 2
                      have hfz72_3 := blk_frozen BK146.out 3
                      have hfz72_4 := blk_frozen BK146.out 4
                      have hfz72_5 := blk_frozen BK146.out 5
                      have hfz72_6 := blk_frozen BK146.out 6
                      have hfz72_7 := blk_frozen BK146.out 7
                      go_wp2
                      repeat (go_quiet (fail); try go_wp2)
                      go_ret
                      exact ⟨by first | rfl | (simp [errW_none, errW_some] <;> rfl) | (simp [*, errW_none, errW_some] <;> rfl), by repeat (first | (with_reducible first | exact HB.out | apply below_alloc | apply pw_below_drewN | apply below_drew1 | refine below_set ?_ GE145.out | refine below_set ?_ GE146.out) | exact HB.out)⟩
                    · rw [if_neg c69] at H
                      exact absurd H (by simp)
                  · rw [if_neg c68] at H
                    exact absurd H (by simp)
                · rw [if_neg c67] at H
                  have c67b0 : decide (t133 < 59) = false := decide_eq_false c67
                  clear c67
                  by_cases c73 : t132 < 23
                  · rw [if_pos c73] at H
                    have c73b0 : decide (t132 < 23) = true := decide_eq_true c73
                    clear c73
                    by_cases c74 : t129 = t137
                    · rw [if_pos c74] at H
                      have c74b0 : (t129 == t137) = true := beq_iff_eq.mpr c74
                      have c74b1 : (t129 != t137) = false := bne_eq_false_iff_eq.mpr c74
                      clear c74
                      by_cases c75 : t136 = t144
                      · rw [if_pos c75] at H
                        have c75b0 : (t136 == t144) = true := beq_iff_eq.mpr c75
                        have c75b1 : (t136 != t144) = false := bne_eq_false_iff_eq.mpr c75
                        clear c75
                        obtain rfl := Option.some.inj H
                        have hnb76 := NB145_146.out
                        have hnc76 := NB146_145.out
                        have hcz77_0 : wc.cell? ⟨gb145, 0, none⟩ = some (.int .i64 t129) := (blk_cell BK145.out 0).trans rfl
                        have hcz77_1 : wc.cell? ⟨gb145, 1, none⟩ = some (.int .i64 t130) := (blk_cell BK145.out 1).trans rfl
                        have hcz77_2 : wc.cell? ⟨gb145, 2, none⟩ = some (.int .i64 t131) := (blk_cell BK145.out 2).trans rfl
                        have hcz77_3 : wc.cell? ⟨gb145, 3, none⟩ = some (.int .i64 t132) := (blk_cell BK145.out 3).trans rfl
                        have hcz77_4 : wc.cell? ⟨gb145, 4, none⟩ = some (.int .i64 t133) := (blk_cell BK145.out 4).trans rfl
                        have hcz77_5 : wc.cell? ⟨gb145, 5, none⟩ = some (.int .i64 t134) := (blk_cell BK145.out 5).trans rfl
                        have hcz77_6 : wc.cell? ⟨gb145, 6, none⟩ = some (.int .i64 t135) := (blk_cell BK145.out 6).trans rfl
                        have hcz77_7 : wc.cell? ⟨gb145, 7, none⟩ = some (.int .i64 t136) := (blk_cell BK145.out 7).trans rfl
                        have hfz77_0 := blk_frozen BK145.out 0
                        have hfz77_1 := blk_frozen BK145.out 1
                        have hfz77_2 := blk_frozen BK145.out 2
                        have hfz77_3 := blk_frozen BK145.out 3
                        have hfz77_4 := blk_frozen BK145.out 4
                        have hfz77_5 := blk_frozen BK145.out 5
                        have hfz77_6 := blk_frozen BK145.out 6
                        have hfz77_7 := blk_frozen BK145.out 7
                        have hcz78_0 : wc.cell? ⟨gb146, 0, none⟩ = some (.int .i64 t137) := (blk_cell BK146.out 0).trans rfl
                        have hcz78_1 : wc.cell? ⟨gb146, 1, none⟩ = some (.int .i64 t138) := (blk_cell BK146.out 1).trans rfl
                        have hcz78_2 : wc.cell? ⟨gb146, 2, none⟩ = some (.int .i64 t139) := (blk_cell BK146.out 2).trans rfl
                        have hcz78_3 : wc.cell? ⟨gb146, 3, none⟩ = some (.int .i64 t140) := (blk_cell BK146.out 3).trans rfl
                        have hcz78_4 : wc.cell? ⟨gb146, 4, none⟩ = some (.int .i64 t141) := (blk_cell BK146.out 4).trans rfl
                        have hcz78_5 : wc.cell? ⟨gb146, 5, none⟩ = some (.int .i64 t142) := (blk_cell BK146.out 5).trans rfl
                        have hcz78_6 : wc.cell? ⟨gb146, 6, none⟩ = some (.int .i64 t143) := (blk_cell BK146.out 6).trans rfl
                        have hcz78_7 : wc.cell? ⟨gb146, 7, none⟩ = some (.int .i64 t144) := (blk_cell BK146.out 7).trans rfl
                        have hfz78_0 := blk_frozen BK146.out 0
                        have hfz78_1 := blk_frozen BK146.out 1
                        have hfz78_2 := blk_frozen BK146.out 2
                        have hfz78_3 := blk_frozen BK146.out 3
                        have hfz78_4 := blk_frozen BK146.out 4
                        have hfz78_5 := blk_frozen BK146.out 5
                        have hfz78_6 := blk_frozen BK146.out 6
                        have hfz78_7 := blk_frozen BK146.out 7
                        go_wp2
                        repeat (go_quiet (fail); try go_wp2)
                        go_ret
                        exact ⟨by first | rfl | (simp [errW_none, errW_some] <;> rfl) | (simp [*, errW_none, errW_some] <;> rfl), by repeat (first | (with_reducible first | exact HB.out | apply below_alloc | apply pw_below_drewN | apply below_drew1 | refine below_set ?_ GE145.out | refine below_set ?_ GE146.out) | exact HB.out)⟩
                      · rw [if_neg c75] at H
                        exact absurd H (by simp)
                    · rw [if_neg c74] at H
                      exact absurd H (by simp)
                  · rw [if_neg c73] at H
                    have c73b0 : decide (t132 < 23) = false := decide_eq_false c73
                    clear c73
                    by_cases c79 : t140 = 0
                    · rw [if_pos c79] at H
                      have c79b0 : (t140 == 0) = true := beq_iff_eq.mpr c79
                      have c79b1 : (t140 != 0) = false := bne_eq_false_iff_eq.mpr c79
                      clear c79
                      by_cases c80 : t143 = (Int.tmod (wrap64 (t135 + 1)) 7)
                      · rw [if_pos c80] at H
                        have c80b0 : (t143 == (Int.tmod (wrap64 (t135 + 1)) 7)) = true := beq_iff_eq.mpr c80
                        have c80b1 : (t143 != (Int.tmod (wrap64 (t135 + 1)) 7)) = false := bne_eq_false_iff_eq.mpr c80
                        clear c80
                        by_cases c81 : t130 = 12
                        · rw [if_pos c81] at H
                          have c81b0 : (t130 == 12) = true := beq_iff_eq.mpr c81
                          have c81b1 : (t130 != 12) = false := bne_eq_false_iff_eq.mpr c81
                          clear c81
                          by_cases c82 : t131 = 31
                          · rw [if_pos c82] at H
                            have c82b0 : (t131 == 31) = true := beq_iff_eq.mpr c82
                            have c82b1 : (t131 != 31) = false := bne_eq_false_iff_eq.mpr c82
                            clear c82
                            by_cases c83 : t137 = (wrap64 (t129 + 1))
                            · rw [if_pos c83] at H
                              have c83b0 : (t137 == (wrap64 (t129 + 1))) = true := beq_iff_eq.mpr c83
                              have c83b1 : (t137 != (wrap64 (t129 + 1))) = false := bne_eq_false_iff_eq.mpr c83
                              clear c83
                              by_cases c84 : t138 = 1
                              · rw [if_pos c84] at H
                                have c84b0 : (t138 == 1) = true := beq_iff_eq.mpr c84
                                have c84b1 : (t138 != 1) = false := bne_eq_false_iff_eq.mpr c84
                                clear c84
                                by_cases c85 : t139 = 1
                                · rw [if_pos c85] at H
                                  have c85b0 : (t139 == 1) = true := beq_iff_eq.mpr c85
                                  have c85b1 : (t139 != 1) = false := bne_eq_false_iff_eq.mpr c85
                                  clear c85
                                  obtain rfl := Option.some.inj H
                                  have hnb86 := NB145_146.out
                                  have hnc86 := NB146_145.out
                                  have hcz87_0 : wc.cell? ⟨gb145, 0, none⟩ = some (.int .i64 t129) := (blk_cell BK145.out 0).trans rfl
                                  have hcz87_1 : wc.cell? ⟨gb145, 1, none⟩ = some (.int .i64 t130) := (blk_cell BK145.out 1).trans rfl
                                  have hcz87_2 : wc.cell? ⟨gb145, 2, none⟩ = some (.int .i64 t131) := (blk_cell BK145.out 2).trans rfl
                                  have hcz87_3 : wc.cell? ⟨gb145, 3, none⟩ = some (.int .i64 t132) := (blk_cell BK145.out 3).trans rfl
                                  have hcz87_4 : wc.cell? ⟨gb145, 4, none⟩ = some (.int .i64 t133) := (blk_cell BK145.out 4).trans rfl
                                  have hcz87_5 : wc.cell? ⟨gb145, 5, none⟩ = some (.int .i64 t134) := (blk_cell BK145.out 5).trans rfl
                                  have hcz87_6 : wc.cell? ⟨gb145, 6, none⟩ = some (.int .i64 t135) := (blk_cell BK145.out 6).trans rfl
                                  have hcz87_7 : wc.cell? ⟨gb145, 7, none⟩ = some (.int .i64 t136) := (blk_cell BK145.out 7).trans rfl
                                  have hfz87_0 := blk_frozen BK145.out 0
                                  have hfz87_1 := blk_frozen BK145.out 1
                                  have hfz87_2 := blk_frozen BK145.out 2
                                  have hfz87_3 := blk_frozen BK145.out 3
                                  have hfz87_4 := blk_frozen BK145.out 4
                                  have hfz87_5 := blk_frozen BK145.out 5
                                  have hfz87_6 := blk_frozen BK145.out 6
                                  have hfz87_7 := blk_frozen BK145.out 7
                                  have hcz88_0 : wc.cell? ⟨gb146, 0, none⟩ = some (.int .i64 t137) := (blk_cell BK146.out 0).trans rfl
                                  have hcz88_1 : wc.cell? ⟨gb146, 1, none⟩ = some (.int .i64 t138) := (blk_cell BK146.out 1).trans rfl
                                  have hcz88_2 : wc.cell? ⟨gb146, 2, none⟩ = some (.int .i64 t139) := (blk_cell BK146.out 2).trans rfl
                                  have hcz88_3 : wc.cell? ⟨gb146, 3, none⟩ = some (.int .i64 t140) := (blk_cell BK146.out 3).trans rfl
                                  have hcz88_4 : wc.cell? ⟨gb146, 4, none⟩ = some (.int .i64 t141) := (blk_cell BK146.out 4).trans rfl
                                  have hcz88_5 : wc.cell? ⟨gb146, 5, none⟩ = some (.int .i64 t142) := (blk_cell BK146.out 5).trans rfl
                                  have hcz88_6 : wc.cell? ⟨gb146, 6, none⟩ = some (.int .i64 t143) := (blk_cell BK146.out 6).trans rfl
                                  have hcz88_7 : wc.cell? ⟨gb146, 7, none⟩ = some (.int .i64 t144) := (blk_cell BK146.out 7).trans rfl
                                  have hfz88_0 := blk_frozen BK146.out 0
                                  have hfz88_1 := blk_frozen BK146.out 1
                                  have hfz88_2 := blk_frozen BK146.out 2
                                  have hfz88_3 := blk_frozen BK146.out 3
                                  have hfz88_4 := blk_frozen BK146.out 4
                                  have hfz88_5 := blk_frozen BK146.out 5
                                  have hfz88_6 := blk_frozen BK146.out 6
                                  have hfz88_7 := blk_frozen BK146.out 7
                                  go_wp2
                                  repeat (go_quiet (fail); try go_wp2)
                                  go_ret
                                  exact ⟨by first | rfl | (simp [errW_none, errW_some] <;> rfl) | (simp [*, errW_none, errW_some] <;> rfl), by repeat (first | (with_reducible first | exact HB.out | apply below_alloc | apply pw_below_drewN | apply below_drew1 | refine below_set ?_ GE145.out | refine below_set ?_ GE146.out) | exact HB.out)⟩
                                · rw [if_neg c85] at H
                                  exact absurd H (by simp)
                              · rw [if_neg c84] at H
                                exact absurd H (by simp)
                            · rw [if_neg c83] at H
                              exact absurd H (by simp)
                          · rw [if_neg c82] at H
                            have c82b0 : (t131 == 31) = false := beq_eq_false_iff_ne.mpr c82
                            have c82b1 : (t131 != 31) = true := bne_iff_ne.mpr c82
                            replace H := Option.bind_eq_some_iff.mp H
                            obtain ⟨t147, A890, H⟩ := H
                            replace H : (if t131 = t147 then (if t137 = t129 then (if t138 = (wrap64 (t130 + 1)) then (if t139 = 1 then (some (t144 == (wrap64 (t136 + 1)))) else (none)) else (none)) else (none)) else (if t137 = t129 then (if t138 = t130 then (if t139 = (wrap64 (t131 + 1)) then (some (t144 == (wrap64 (t136 + 1)))) else (none)) else (none)) else (none))) = some r := H
                            have A89 := Aside0.mk A890
                            clear A890
                            by_cases c90 : t131 = t147
                            · rw [if_pos c90] at H
                              have c90b0 : (t131 == t147) = true := beq_iff_eq.mpr c90
                              have c90b1 : (t131 != t147) = false := bne_eq_false_iff_eq.mpr c90
                              clear c90
                              by_cases c91 : t137 = t129
                              · rw [if_pos c91] at H
                                have c91b0 : (t137 == t129) = true := beq_iff_eq.mpr c91
                                have c91b1 : (t137 != t129) = false := bne_eq_false_iff_eq.mpr c91
                                clear c91
                                by_cases c92 : t138 = (wrap64 (t130 + 1))
                                · rw [if_pos c92] at H
                                  have c92b0 : (t138 == (wrap64 (t130 + 1))) = true := beq_iff_eq.mpr c92
                                  have c92b1 : (t138 != (wrap64 (t130 + 1))) = false := bne_eq_false_iff_eq.mpr c92
                                  clear c92
                                  by_cases c93 : t139 = 1
                                  · rw [if_pos c93] at H
                                    have c93b0 : (t139 == 1) = true := beq_iff_eq.mpr c93
                                    have c93b1 : (t139 != 1) = false := bne_eq_false_iff_eq.mpr c93
                                    clear c93
                                    obtain rfl := Option.some.inj H
                                    have hnb94 := NB145_146.out
                                    have hnc94 := NB146_145.out
                                    have hcz95_0 : wc.cell? ⟨gb145, 0, none⟩ = some (.int .i64 t129) := (blk_cell BK145.out 0).trans rfl
                                    have hcz95_1 : wc.cell? ⟨gb145, 1, none⟩ = some (.int .i64 t130) := (blk_cell BK145.out 1).trans rfl
                                    have hcz95_2 : wc.cell? ⟨gb145, 2, none⟩ = some (.int .i64 t131) := (blk_cell BK145.out 2).trans rfl
                                    have hcz95_3 : wc.cell? ⟨gb145, 3, none⟩ = some (.int .i64 t132) := (blk_cell BK145.out 3).trans rfl
                                    have hcz95_4 : wc.cell? ⟨gb145, 4, none⟩ = some (.int .i64 t133) := (blk_cell BK145.out 4).trans rfl
                                    have hcz95_5 : wc.cell? ⟨gb145, 5, none⟩ = some (.int .i64 t134) := (blk_cell BK145.out 5).trans rfl
                                    have hcz95_6 : wc.cell? ⟨gb145, 6, none⟩ = some (.int .i64 t135) := (blk_cell BK145.out 6).trans rfl
                                    have hcz95_7 : wc.cell? ⟨gb145, 7, none⟩ = some (.int .i64 t136) := (blk_cell BK145.out 7).trans rfl
                                    have hfz95_0 := blk_frozen BK145.out 0
                                    have hfz95_1 := blk_frozen BK145.out 1
                                    have hfz95_2 := blk_frozen BK145.out 2
                                    have hfz95_3 := blk_frozen BK145.out 3
                                    have hfz95_4 := blk_frozen BK145.out 4
                                    have hfz95_5 := blk_frozen BK145.out 5
                                    have hfz95_6 := blk_frozen BK145.out 6
                                    have hfz95_7 := blk_frozen BK145.out 7
                                    have hcz96_0 : wc.cell? ⟨gb146, 0, none⟩ = some (.int .i64 t137) := (blk_cell BK146.out 0).trans rfl
                                    have hcz96_1 : wc.cell? ⟨gb146, 1, none⟩ = some (.int .i64 t138) := (blk_cell BK146.out 1).trans rfl
                                    have hcz96_2 : wc.cell? ⟨gb146, 2, none⟩ = some (.int .i64 t139) := (blk_cell BK146.out 2).trans rfl
                                    have hcz96_3 : wc.cell? ⟨gb146, 3, none⟩ = some (.int .i64 t140) := (blk_cell BK146.out 3).trans rfl
                                    have hcz96_4 : wc.cell? ⟨gb146, 4, none⟩ = some (.int .i64 t141) := (blk_cell BK146.out 4).trans rfl
                                    have hcz96_5 : wc.cell? ⟨gb146, 5, none⟩ = some (.int .i64 t142) := (blk_cell BK146.out 5).trans rfl
                                    have hcz96_6 : wc.cell? ⟨gb146, 6, none⟩ = some (.int .i64 t143) := (blk_cell BK146.out 6).trans rfl
                                    have hcz96_7 : wc.cell? ⟨gb146, 7, none⟩ = some (.int .i64 t144) := (blk_cell BK146.out 7).trans rfl
                                    have hfz96_0 := blk_frozen BK146.out 0
                                    have hfz96_1 := blk_frozen BK146.out 1
                                    have hfz96_2 := blk_frozen BK146.out 2
                                    have hfz96_3 := blk_frozen BK146.out 3
                                    have hfz96_4 := blk_frozen BK146.out 4
                                    have hfz96_5 := blk_frozen BK146.out 5
                                    have hfz96_6 := blk_frozen BK146.out 6
                                    have hfz96_7 := blk_frozen BK146.out 7
                                    go_wp2_with (first | (go_at_call 23; (with_reducible refine (date_Days.calls kj24 t129 t130 t147 _ A89.out).mono ?_); rintro e w' ⟨rfl, ⟨nd, rfl⟩⟩; (try first | exact ⟨rfl, _, World.drewN_drewN _ _ _⟩ | exact ⟨rfl, _, Eq.trans (World.drewN_drewN _ _ _) (congrArg (World.drewN _) (Nat.add_assoc _ _ _))⟩)))
                                    repeat (go_quiet (first | (go_at_call 23; (with_reducible refine (date_Days.calls kj24 t129 t130 t147 _ A89.out).mono ?_); rintro e w' ⟨rfl, ⟨nd, rfl⟩⟩; (try first | exact ⟨rfl, _, World.drewN_drewN _ _ _⟩ | exact ⟨rfl, _, Eq.trans (World.drewN_drewN _ _ _) (congrArg (World.drewN _) (Nat.add_assoc _ _ _))⟩))); try go_wp2_with (first | (go_at_call 23; (with_reducible refine (date_Days.calls kj24 t129 t130 t147 _ A89.out).mono ?_); rintro e w' ⟨rfl, ⟨nd, rfl⟩⟩; (try first | exact ⟨rfl, _, World.drewN_drewN _ _ _⟩ | exact ⟨rfl, _, Eq.trans (World.drewN_drewN _ _ _) (congrArg (World.drewN _) (Nat.add_assoc _ _ _))⟩))))
                                    go_ret
                                    exact ⟨by first | rfl | (simp [errW_none, errW_some] <;> rfl) | (simp [*, errW_none, errW_some] <;> rfl), by repeat (first | (with_reducible first | exact HB.out | apply below_alloc | apply pw_below_drewN | apply below_drew1 | refine below_set ?_ GE145.out | refine below_set ?_ GE146.out) | exact HB.out)⟩
                                  · rw [if_neg c93] at H
                                    exact absurd H (by simp)
                                · rw [if_neg c92] at H
                                  exact absurd H (by simp)
                              · rw [if_neg c91] at H
                                exact absurd H (by simp)
                            · rw [if_neg c90] at H
                              have c90b0 : (t131 == t147) = false := beq_eq_false_iff_ne.mpr c90
                              have c90b1 : (t131 != t147) = true := bne_iff_ne.mpr c90
                              by_cases c97 : t137 = t129
                              · rw [if_pos c97] at H
                                have c97b0 : (t137 == t129) = true := beq_iff_eq.mpr c97
                                have c97b1 : (t137 != t129) = false := bne_eq_false_iff_eq.mpr c97
                                clear c97
                                by_cases c98 : t138 = t130
                                · rw [if_pos c98] at H
                                  have c98b0 : (t138 == t130) = true := beq_iff_eq.mpr c98
                                  have c98b1 : (t138 != t130) = false := bne_eq_false_iff_eq.mpr c98
                                  clear c98
                                  by_cases c99 : t139 = (wrap64 (t131 + 1))
                                  · rw [if_pos c99] at H
                                    have c99b0 : (t139 == (wrap64 (t131 + 1))) = true := beq_iff_eq.mpr c99
                                    have c99b1 : (t139 != (wrap64 (t131 + 1))) = false := bne_eq_false_iff_eq.mpr c99
                                    clear c99
                                    obtain rfl := Option.some.inj H
                                    have hnb100 := NB145_146.out
                                    have hnc100 := NB146_145.out
                                    have hcz101_0 : wc.cell? ⟨gb145, 0, none⟩ = some (.int .i64 t129) := (blk_cell BK145.out 0).trans rfl
                                    have hcz101_1 : wc.cell? ⟨gb145, 1, none⟩ = some (.int .i64 t130) := (blk_cell BK145.out 1).trans rfl
                                    have hcz101_2 : wc.cell? ⟨gb145, 2, none⟩ = some (.int .i64 t131) := (blk_cell BK145.out 2).trans rfl
                                    have hcz101_3 : wc.cell? ⟨gb145, 3, none⟩ = some (.int .i64 t132) := (blk_cell BK145.out 3).trans rfl
                                    have hcz101_4 : wc.cell? ⟨gb145, 4, none⟩ = some (.int .i64 t133) := (blk_cell BK145.out 4).trans rfl
                                    have hcz101_5 : wc.cell? ⟨gb145, 5, none⟩ = some (.int .i64 t134) := (blk_cell BK145.out 5).trans rfl
                                    have hcz101_6 : wc.cell? ⟨gb145, 6, none⟩ = some (.int .i64 t135) := (blk_cell BK145.out 6).trans rfl
                                    have hcz101_7 : wc.cell? ⟨gb145, 7, none⟩ = some (.int .i64 t136) := (blk_cell BK145.out 7).trans rfl
                                    have hfz101_0 := blk_frozen BK145.out 0
                                    have hfz101_1 := blk_frozen BK145.out 1
                                    have hfz101_2 := blk_frozen BK145.out 2
                                    have hfz101_3 := blk_frozen BK145.out 3
                                    have hfz101_4 := blk_frozen BK145.out 4
                                    have hfz101_5 := blk_frozen BK145.out 5
                                    have hfz101_6 := blk_frozen BK145.out 6
                                    have hfz101_7 := blk_frozen BK145.out 7
                                    have hcz102_0 : wc.cell? ⟨gb146, 0, none⟩ = some (.int .i64 t137) := (blk_cell BK146.out 0).trans rfl
                                    have hcz102_1 : wc.cell? ⟨gb146, 1, none⟩ = some (.int .i64 t138) := (blk_cell BK146.out 1).trans rfl
                                    have hcz102_2 : wc.cell? ⟨gb146, 2, none⟩ = some (.int .i64 t139) := (blk_cell BK146.out 2).trans rfl
                                    have hcz102_3 : wc.cell? ⟨gb146, 3, none⟩ = some (.int .i64 t140) := (blk_cell BK146.out 3).trans rfl
                                    have hcz102_4 : wc.cell? ⟨gb146, 4, none⟩ = some (.int .i64 t141) := (blk_cell BK146.out 4).trans rfl
                                    have hcz102_5 : wc.cell? ⟨gb146, 5, none⟩ = some (.int .i64 t142) := (blk_cell BK146.out 5).trans rfl
                                    have hcz102_6 : wc.cell? ⟨gb146, 6, none⟩ = some (.int .i64 t143) := (blk_cell BK146.out 6).trans rfl
                                    have hcz102_7 : wc.cell? ⟨gb146, 7, none⟩ = some (.int .i64 t144) := (blk_cell BK146.out 7).trans rfl
                                    have hfz102_0 := blk_frozen BK146.out 0
                                    have hfz102_1 := blk_frozen BK146.out 1
                                    have hfz102_2 := blk_frozen BK146.out 2
                                    have hfz102_3 := blk_frozen BK146.out 3
                                    have hfz102_4 := blk_frozen BK146.out 4
                                    have hfz102_5 := blk_frozen BK146.out 5
                                    have hfz102_6 := blk_frozen BK146.out 6
                                    have hfz102_7 := blk_frozen BK146.out 7
                                    go_wp2_with (first | (go_at_call 23; (with_reducible refine (date_Days.calls kj24 t129 t130 t147 _ A89.out).mono ?_); rintro e w' ⟨rfl, ⟨nd, rfl⟩⟩; (try first | exact ⟨rfl, _, World.drewN_drewN _ _ _⟩ | exact ⟨rfl, _, Eq.trans (World.drewN_drewN _ _ _) (congrArg (World.drewN _) (Nat.add_assoc _ _ _))⟩)))
                                    repeat (go_quiet (first | (go_at_call 23; (with_reducible refine (date_Days.calls kj24 t129 t130 t147 _ A89.out).mono ?_); rintro e w' ⟨rfl, ⟨nd, rfl⟩⟩; (try first | exact ⟨rfl, _, World.drewN_drewN _ _ _⟩ | exact ⟨rfl, _, Eq.trans (World.drewN_drewN _ _ _) (congrArg (World.drewN _) (Nat.add_assoc _ _ _))⟩))); try go_wp2_with (first | (go_at_call 23; (with_reducible refine (date_Days.calls kj24 t129 t130 t147 _ A89.out).mono ?_); rintro e w' ⟨rfl, ⟨nd, rfl⟩⟩; (try first | exact ⟨rfl, _, World.drewN_drewN _ _ _⟩ | exact ⟨rfl, _, Eq.trans (World.drewN_drewN _ _ _) (congrArg (World.drewN _) (Nat.add_assoc _ _ _))⟩))))
                                    go_ret
                                    exact ⟨by first | rfl | (simp [errW_none, errW_some] <;> rfl) | (simp [*, errW_none, errW_some] <;> rfl), by repeat (first | (with_reducible first | exact HB.out | apply below_alloc | apply pw_below_drewN | apply below_drew1 | refine below_set ?_ GE145.out | refine below_set ?_ GE146.out) | exact HB.out)⟩
                                  · rw [if_neg c99] at H
                                    exact absurd H (by simp)
                                · rw [if_neg c98] at H
                                  exact absurd H (by simp)
                              · rw [if_neg c97] at H
                                exact absurd H (by simp)
                        · rw [if_neg c81] at H
                          have c81b0 : (t130 == 12) = false := beq_eq_false_iff_ne.mpr c81
                          have c81b1 : (t130 != 12) = true := bne_iff_ne.mpr c81
                          replace H := Option.bind_eq_some_iff.mp H
                          obtain ⟨t148, A1030, H⟩ := H
                          replace H : (if t131 = t148 then (if t137 = t129 then (if t138 = (wrap64 (t130 + 1)) then (if t139 = 1 then (some (t144 == (wrap64 (t136 + 1)))) else (none)) else (none)) else (none)) else (if t137 = t129 then (if t138 = t130 then (if t139 = (wrap64 (t131 + 1)) then (some (t144 == (wrap64 (t136 + 1)))) else (none)) else (none)) else (none))) = some r := H
                          have A103 := Aside0.mk A1030
                          clear A1030
                          by_cases c104 : t131 = t148
                          · rw [if_pos c104] at H
                            have c104b0 : (t131 == t148) = true := beq_iff_eq.mpr c104
                            have c104b1 : (t131 != t148) = false := bne_eq_false_iff_eq.mpr c104
                            clear c104
                            by_cases c105 : t137 = t129
                            · rw [if_pos c105] at H
                              have c105b0 : (t137 == t129) = true := beq_iff_eq.mpr c105
                              have c105b1 : (t137 != t129) = false := bne_eq_false_iff_eq.mpr c105
                              clear c105
                              by_cases c106 : t138 = (wrap64 (t130 + 1))
                              · rw [if_pos c106] at H
                                have c106b0 : (t138 == (wrap64 (t130 + 1))) = true := beq_iff_eq.mpr c106
                                have c106b1 : (t138 != (wrap64 (t130 + 1))) = false := bne_eq_false_iff_eq.mpr c106
                                clear c106
                                by_cases c107 : t139 = 1
                                · rw [if_pos c107] at H
                                  have c107b0 : (t139 == 1) = true := beq_iff_eq.mpr c107
                                  have c107b1 : (t139 != 1) = false := bne_eq_false_iff_eq.mpr c107
                                  clear c107
                                  obtain rfl := Option.some.inj H
                                  have hnb108 := NB145_146.out
                                  have hnc108 := NB146_145.out
                                  have hcz109_0 : wc.cell? ⟨gb145, 0, none⟩ = some (.int .i64 t129) := (blk_cell BK145.out 0).trans rfl
                                  have hcz109_1 : wc.cell? ⟨gb145, 1, none⟩ = some (.int .i64 t130) := (blk_cell BK145.out 1).trans rfl
                                  have hcz109_2 : wc.cell? ⟨gb145, 2, none⟩ = some (.int .i64 t131) := (blk_cell BK145.out 2).trans rfl
                                  have hcz109_3 : wc.cell? ⟨gb145, 3, none⟩ = some (.int .i64 t132) := (blk_cell BK145.out 3).trans rfl
                                  have hcz109_4 : wc.cell? ⟨gb145, 4, none⟩ = some (.int .i64 t133) := (blk_cell BK145.out 4).trans rfl
                                  have hcz109_5 : wc.cell? ⟨gb145, 5, none⟩ = some (.int .i64 t134) := (blk_cell BK145.out 5).trans rfl
                                  have hcz109_6 : wc.cell? ⟨gb145, 6, none⟩ = some (.int .i64 t135) := (blk_cell BK145.out 6).trans rfl
                                  have hcz109_7 : wc.cell? ⟨gb145, 7, none⟩ = some (.int .i64 t136) := (blk_cell BK145.out 7).trans rfl
                                  have hfz109_0 := blk_frozen BK145.out 0
                                  have hfz109_1 := blk_frozen BK145.out 1
                                  have hfz109_2 := blk_frozen BK145.out 2
                                  have hfz109_3 := blk_frozen BK145.out 3
                                  have hfz109_4 := blk_frozen BK145.out 4
                                  have hfz109_5 := blk_frozen BK145.out 5
                                  have hfz109_6 := blk_frozen BK145.out 6
                                  have hfz109_7 := blk_frozen BK145.out 7
                                  have hcz110_0 : wc.cell? ⟨gb146, 0, none⟩ = some (.int .i64 t137) := (blk_cell BK146.out 0).trans rfl
                                  have hcz110_1 : wc.cell? ⟨gb146, 1, none⟩ = some (.int .i64 t138) := (blk_cell BK146.out 1).trans rfl
                                  have hcz110_2 : wc.cell? ⟨gb146, 2, none⟩ = some (.int .i64 t139) := (blk_cell BK146.out 2).trans rfl
                                  have hcz110_3 : wc.cell? ⟨gb146, 3, none⟩ = some (.int .i64 t140) := (blk_cell BK146.out 3).trans rfl
                                  have hcz110_4 : wc.cell? ⟨gb146, 4, none⟩ = some (.int .i64 t141) := (blk_cell BK146.out 4).trans rfl
                                  have hcz110_5 : wc.cell? ⟨gb146, 5, none⟩ = some (.int .i64 t142) := (blk_cell BK146.out 5).trans rfl
                                  have hcz110_6 : wc.cell? ⟨gb146, 6, none⟩ = some (.int .i64 t143) := (blk_cell BK146.out 6).trans rfl
                                  have hcz110_7 : wc.cell? ⟨gb146, 7, none⟩ = some (.int .i64 t144) := (blk_cell BK146.out 7).trans rfl
                                  have hfz110_0 := blk_frozen BK146.out 0
                                  have hfz110_1 := blk_frozen BK146.out 1
                                  have hfz110_2 := blk_frozen BK146.out 2
                                  have hfz110_3 := blk_frozen BK146.out 3
                                  have hfz110_4 := blk_frozen BK146.out 4
                                  have hfz110_5 := blk_frozen BK146.out 5
                                  have hfz110_6 := blk_frozen BK146.out 6
                                  have hfz110_7 := blk_frozen BK146.out 7
                                  go_wp2_with (first | (go_at_call 23; (with_reducible refine (date_Days.calls kj24 t129 t130 t148 _ A103.out).mono ?_); rintro e w' ⟨rfl, ⟨nd, rfl⟩⟩; (try first | exact ⟨rfl, _, World.drewN_drewN _ _ _⟩ | exact ⟨rfl, _, Eq.trans (World.drewN_drewN _ _ _) (congrArg (World.drewN _) (Nat.add_assoc _ _ _))⟩)))
                                  repeat (go_quiet (first | (go_at_call 23; (with_reducible refine (date_Days.calls kj24 t129 t130 t148 _ A103.out).mono ?_); rintro e w' ⟨rfl, ⟨nd, rfl⟩⟩; (try first | exact ⟨rfl, _, World.drewN_drewN _ _ _⟩ | exact ⟨rfl, _, Eq.trans (World.drewN_drewN _ _ _) (congrArg (World.drewN _) (Nat.add_assoc _ _ _))⟩))); try go_wp2_with (first | (go_at_call 23; (with_reducible refine (date_Days.calls kj24 t129 t130 t148 _ A103.out).mono ?_); rintro e w' ⟨rfl, ⟨nd, rfl⟩⟩; (try first | exact ⟨rfl, _, World.drewN_drewN _ _ _⟩ | exact ⟨rfl, _, Eq.trans (World.drewN_drewN _ _ _) (congrArg (World.drewN _) (Nat.add_assoc _ _ _))⟩))))
                                  go_ret
                                  exact ⟨by first | rfl | (simp [errW_none, errW_some] <;> rfl) | (simp [*, errW_none, errW_some] <;> rfl), by repeat (first | (with_reducible first | exact HB.out | apply below_alloc | apply pw_below_drewN | apply below_drew1 | refine below_set ?_ GE145.out | refine below_set ?_ GE146.out) | exact HB.out)⟩
                                · rw [if_neg c107] at H
                                  exact absurd H (by simp)
                              · rw [if_neg c106] at H
                                exact absurd H (by simp)
                            · rw [if_neg c105] at H
                              exact absurd H (by simp)
                          · rw [if_neg c104] at H
                            have c104b0 : (t131 == t148) = false := beq_eq_false_iff_ne.mpr c104
                            have c104b1 : (t131 != t148) = true := bne_iff_ne.mpr c104
                            by_cases c111 : t137 = t129
                            · rw [if_pos c111] at H
                              have c111b0 : (t137 == t129) = true := beq_iff_eq.mpr c111
                              have c111b1 : (t137 != t129) = false := bne_eq_false_iff_eq.mpr c111
                              clear c111
                              by_cases c112 : t138 = t130
                              · rw [if_pos c112] at H
                                have c112b0 : (t138 == t130) = true := beq_iff_eq.mpr c112
                                have c112b1 : (t138 != t130) = false := bne_eq_false_iff_eq.mpr c112
                                clear c112
                                by_cases c113 : t139 = (wrap64 (t131 + 1))
                                · rw [if_pos c113] at H
                                  have c113b0 : (t139 == (wrap64 (t131 + 1))) = true := beq_iff_eq.mpr c113
                                  have c113b1 : (t139 != (wrap64 (t131 + 1))) = false := bne_eq_false_iff_eq.mpr c113
                                  clear c113
                                  obtain rfl := Option.some.inj H
                                  have hnb114 := NB145_146.out
                                  have hnc114 := NB146_145.out
                                  have hcz115_0 : wc.cell? ⟨gb145, 0, none⟩ = some (.int .i64 t129) := (blk_cell BK145.out 0).trans rfl
                                  have hcz115_1 : wc.cell? ⟨gb145, 1, none⟩ = some (.int .i64 t130) := (blk_cell BK145.out 1).trans rfl
                                  have hcz115_2 : wc.cell? ⟨gb145, 2, none⟩ = some (.int .i64 t131) := (blk_cell BK145.out 2).trans rfl
                                  have hcz115_3 : wc.cell? ⟨gb145, 3, none⟩ = some (.int .i64 t132) := (blk_cell BK145.out 3).trans rfl
                                  have hcz115_4 : wc.cell? ⟨gb145, 4, none⟩ = some (.int .i64 t133) := (blk_cell BK145.out 4).trans rfl
                                  have hcz115_5 : wc.cell? ⟨gb145, 5, none⟩ = some (.int .i64 t134) := (blk_cell BK145.out 5).trans rfl
                                  have hcz115_6 : wc.cell? ⟨gb145, 6, none⟩ = some (.int .i64 t135) := (blk_cell BK145.out 6).trans rfl
                                  have hcz115_7 : wc.cell? ⟨gb145, 7, none⟩ = some (.int .i64 t136) := (blk_cell BK145.out 7).trans rfl
                                  have hfz115_0 := blk_frozen BK145.out 0
                                  have hfz115_1 := blk_frozen BK145.out 1
                                  have hfz115_2 := blk_frozen BK145.out 2
                                  have hfz115_3 := blk_frozen BK145.out 3
                                  have hfz115_4 := blk_frozen BK145.out 4
                                  have hfz115_5 := blk_frozen BK145.out 5
                                  have hfz115_6 := blk_frozen BK145.out 6
                                  have hfz115_7 := blk_frozen BK145.out 7
                                  have hcz116_0 : wc.cell? ⟨gb146, 0, none⟩ = some (.int .i64 t137) := (blk_cell BK146.out 0).trans rfl
                                  have hcz116_1 : wc.cell? ⟨gb146, 1, none⟩ = some (.int .i64 t138) := (blk_cell BK146.out 1).trans rfl
                                  have hcz116_2 : wc.cell? ⟨gb146, 2, none⟩ = some (.int .i64 t139) := (blk_cell BK146.out 2).trans rfl
                                  have hcz116_3 : wc.cell? ⟨gb146, 3, none⟩ = some (.int .i64 t140) := (blk_cell BK146.out 3).trans rfl
                                  have hcz116_4 : wc.cell? ⟨gb146, 4, none⟩ = some (.int .i64 t141) := (blk_cell BK146.out 4).trans rfl
                                  have hcz116_5 : wc.cell? ⟨gb146, 5, none⟩ = some (.int .i64 t142) := (blk_cell BK146.out 5).trans rfl
                                  have hcz116_6 : wc.cell? ⟨gb146, 6, none⟩ = some (.int .i64 t143) := (blk_cell BK146.out 6).trans rfl
                                  have hcz116_7 : wc.cell? ⟨gb146, 7, none⟩ = some (.int .i64 t144) := (blk_cell BK146.out 7).trans rfl
                                  have hfz116_0 := blk_frozen BK146.out 0
                                  have hfz116_1 := blk_frozen BK146.out 1
                                  have hfz116_2 := blk_frozen BK146.out 2
                                  have hfz116_3 := blk_frozen BK146.out 3
                                  have hfz116_4 := blk_frozen BK146.out 4
                                  have hfz116_5 := blk_frozen BK146.out 5
                                  have hfz116_6 := blk_frozen BK146.out 6
                                  have hfz116_7 := blk_frozen BK146.out 7
                                  go_wp2_with (first | (go_at_call 23; (with_reducible refine (date_Days.calls kj24 t129 t130 t148 _ A103.out).mono ?_); rintro e w' ⟨rfl, ⟨nd, rfl⟩⟩; (try first | exact ⟨rfl, _, World.drewN_drewN _ _ _⟩ | exact ⟨rfl, _, Eq.trans (World.drewN_drewN _ _ _) (congrArg (World.drewN _) (Nat.add_assoc _ _ _))⟩)))
                                  repeat (go_quiet (first | (go_at_call 23; (with_reducible refine (date_Days.calls kj24 t129 t130 t148 _ A103.out).mono ?_); rintro e w' ⟨rfl, ⟨nd, rfl⟩⟩; (try first | exact ⟨rfl, _, World.drewN_drewN _ _ _⟩ | exact ⟨rfl, _, Eq.trans (World.drewN_drewN _ _ _) (congrArg (World.drewN _) (Nat.add_assoc _ _ _))⟩))); try go_wp2_with (first | (go_at_call 23; (with_reducible refine (date_Days.calls kj24 t129 t130 t148 _ A103.out).mono ?_); rintro e w' ⟨rfl, ⟨nd, rfl⟩⟩; (try first | exact ⟨rfl, _, World.drewN_drewN _ _ _⟩ | exact ⟨rfl, _, Eq.trans (World.drewN_drewN _ _ _) (congrArg (World.drewN _) (Nat.add_assoc _ _ _))⟩))))
                                  go_ret
                                  exact ⟨by first | rfl | (simp [errW_none, errW_some] <;> rfl) | (simp [*, errW_none, errW_some] <;> rfl), by repeat (first | (with_reducible first | exact HB.out | apply below_alloc | apply pw_below_drewN | apply below_drew1 | refine below_set ?_ GE145.out | refine below_set ?_ GE146.out) | exact HB.out)⟩
                                · rw [if_neg c113] at H
                                  exact absurd H (by simp)
                              · rw [if_neg c112] at H
                                exact absurd H (by simp)
                            · rw [if_neg c111] at H
                              exact absurd H (by simp)
                      · rw [if_neg c80] at H
                        exact absurd H (by simp)
                    · rw [if_neg c79] at H
                      exact absurd H (by simp)

/-- THE ONE PURE STATEMENT of domesdaylaw04_DateNext: yours. -/
def domesdaylaw04_DateNext.Pure : Prop := ∀ (a0 : Int) (a1 : Int), (Lit.int .i64 a0).wf = true → (Lit.int .i64 a1).wf = true → ∃ k, domesdaylaw04_DateNext.f k a0 a1 = some true
theorem domesdaylaw04_DateNext.walk (P : domesdaylaw04_DateNext.Pure) (a0 : Int) (a1 : Int) (w : World) (w0 : (Lit.int .i64 a0).wf = true) (w1 : (Lit.int .i64 a1).wf = true) :
    Calls Try.prog 7 #[.int .i64 a0, .int .i64 a1] w fun e w' => e = .returned (.bool true) ∧ Below w.heap.size w w' := by
  obtain ⟨k, h⟩ := P a0 a1 w0 w1
  refine (domesdaylaw04_DateNext.calls k a0 a1 true w h).mono ?_
  rintro e w' ⟨rfl, hd⟩
  exact ⟨rfl, hd⟩

end Go.Proofs.Ytngcecmfgjgigaa.QDateNext
