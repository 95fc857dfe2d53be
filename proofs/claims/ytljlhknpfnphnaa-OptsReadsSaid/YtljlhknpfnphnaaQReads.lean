-- Made by a program of this session.
import Derived.Test.YtljlhknpfnphnaaQA
import Derived.Test.YtljlhknpfnphnaaQB
import Derived.Test.YtljlhknpfnphnaaQD
namespace Go.Proofs.Ytljlhknpfnphnaa.QOpts
open Go.RowKit Go.Proofs.YtljlhknpfnphnaaW.PrintWords Go.Proofs.YtljlhknpfnphnaaW.PrintLast Go.Proofs.YtljlhknpfnphnaaW.PrintMore
attribute [local go_sem] max2_int min2_int max_two min_two max_three min_three max_four min_four   -- for this text's walks alone
set_option linter.unusedVariables false
set_option linter.unusedSimpArgs false
attribute [local go_sem high] eqA36

/-! ### domesdaylaw13_OptsReads: function 4 -/
mutual
def domesdaylaw13_OptsReads.j0 : Nat → List (S42) → List ByteArray → Bool → Option (Bool)
  | 0, _, _, _ => none
  | k + 1, x0, x1, x21 => if x21 = true then ((domesdaylaw13_awake.f k).bind fun t169 => (some t169)) else ((some (([] : List ByteArray) : List ByteArray)).bind fun y170 => (if y170.length + x1.length < 8796093022208 then ((opts_Read.f k x0 x1).bind fun bt176 => ((domesdayref13_Read.f k x0 x1).bind fun bt184 => ((domesdayref11_Same.f k x1 (y170 ++ x1)).bind fun t192 => (if t192 = true then ((domesdayref13_Same.f k bt176.1 bt184.1).bind fun t193 => (if t193 = true then ((domesdayref11_Same.f k bt176.2.1 bt184.2.1).bind fun t194 => (if t194 = true then (domesdaylaw13_OptsReads.j1 k bt176.2.2.2 bt184.2.2.2 (bt176.2.2.1.toList != bt184.2.2.1.toList)) else (domesdaylaw13_OptsReads.j1 k bt176.2.2.2 bt184.2.2.2 true))) else (domesdaylaw13_OptsReads.j1 k bt176.2.2.2 bt184.2.2.2 true))) else (domesdaylaw13_OptsReads.j1 k bt176.2.2.2 bt184.2.2.2 true))))) else (none)))
def domesdaylaw13_OptsReads.j1 : Nat → Int → Bool → Bool → Option (Bool)
  | 0, _, _, _ => none
  | k + 1, x9, x13, x62 => if x62 = true then (none) else (if x13 = true then (some (x9 == 0)) else (some (x9 == 10)))
end
def domesdaylaw13_OptsReads.f (k : Nat) (l0 : List (S42)) (l1 : List ByteArray) : Option (Bool) := (domesdaylaw13_awake.f k).bind fun t167 => (if t167 = true then ((domesdayref13_Few.f k l0 l1).bind fun t168 => (domesdaylaw13_OptsReads.j0 k l0 l1 (!t168))) else (domesdaylaw13_OptsReads.j0 k l0 l1 true))
theorem domesdaylaw13_OptsReads.mono_l : ∀ k, (∀ y0 y1 y2, LeO (domesdaylaw13_OptsReads.j0 k y0 y1 y2) (domesdaylaw13_OptsReads.j0 (k + 1) y0 y1 y2)) ∧ (∀ y0 y1 y2, LeO (domesdaylaw13_OptsReads.j1 k y0 y1 y2) (domesdaylaw13_OptsReads.j1 (k + 1) y0 y1 y2))
  | 0 => ⟨fun _ _ _ r h => by simp [domesdaylaw13_OptsReads.j0] at h, fun _ _ _ r h => by simp [domesdaylaw13_OptsReads.j1] at h⟩
  | k + 1 => by
    obtain ⟨ih0, ih1⟩ := domesdaylaw13_OptsReads.mono_l k
    refine ⟨?_, ?_⟩
    · intro y0 y1 y2
      unfold domesdaylaw13_OptsReads.j0
      repeat' first
      | (with_reducible exact ih0 _ _ _)
      | (with_reducible exact ih1 _ _ _)
      | (with_reducible exact domesdaylaw13_awake.mono _)
      | (with_reducible exact domesdayref11_Same.mono _ _ _)
      | (with_reducible exact domesdayref13_Few.mono _ _ _)
      | (with_reducible exact domesdayref13_Read.mono _ _ _)
      | (with_reducible exact domesdayref13_Same.mono _ _ _)
      | (with_reducible exact opts_Read.mono _ _ _)
      | (with_reducible exact LeO.refl _)
      | (with_reducible exact LeO.none _)
      | (with_reducible refine LeO.ite ?_ ?_)
      | (with_reducible refine LeO.bind ?_ (fun _ => ?_))
      | exact ih0 _ _ _
      | exact ih1 _ _ _
      | exact domesdaylaw13_awake.mono _
      | exact domesdayref11_Same.mono _ _ _
      | exact domesdayref13_Few.mono _ _ _
      | exact domesdayref13_Read.mono _ _ _
      | exact domesdayref13_Same.mono _ _ _
      | exact opts_Read.mono _ _ _
      | exact LeO.none _
      | refine LeO.ite ?_ ?_
      | refine LeO.bind ?_ (fun _ => ?_)
    · intro y0 y1 y2
      unfold domesdaylaw13_OptsReads.j1
      repeat' first
      | (with_reducible exact ih0 _ _ _)
      | (with_reducible exact ih1 _ _ _)
      | (with_reducible exact domesdaylaw13_awake.mono _)
      | (with_reducible exact domesdayref11_Same.mono _ _ _)
      | (with_reducible exact domesdayref13_Few.mono _ _ _)
      | (with_reducible exact domesdayref13_Read.mono _ _ _)
      | (with_reducible exact domesdayref13_Same.mono _ _ _)
      | (with_reducible exact opts_Read.mono _ _ _)
      | (with_reducible exact LeO.refl _)
      | (with_reducible exact LeO.none _)
      | (with_reducible refine LeO.ite ?_ ?_)
      | (with_reducible refine LeO.bind ?_ (fun _ => ?_))
      | exact ih0 _ _ _
      | exact ih1 _ _ _
      | exact domesdaylaw13_awake.mono _
      | exact domesdayref11_Same.mono _ _ _
      | exact domesdayref13_Few.mono _ _ _
      | exact domesdayref13_Read.mono _ _ _
      | exact domesdayref13_Same.mono _ _ _
      | exact opts_Read.mono _ _ _
      | exact LeO.none _
      | refine LeO.ite ?_ ?_
      | refine LeO.bind ?_ (fun _ => ?_)
theorem domesdaylaw13_OptsReads.mono : ∀ a0 a1 k, LeO (domesdaylaw13_OptsReads.f k a0 a1) (domesdaylaw13_OptsReads.f (k + 1) a0 a1) := by
  intro a0 a1 k
  obtain ⟨ih0, ih1⟩ := domesdaylaw13_OptsReads.mono_l k
  unfold domesdaylaw13_OptsReads.f
  repeat' first
      | (with_reducible exact ih0 _ _ _)
      | (with_reducible exact ih1 _ _ _)
      | (with_reducible exact domesdaylaw13_awake.mono _)
      | (with_reducible exact domesdayref11_Same.mono _ _ _)
      | (with_reducible exact domesdayref13_Few.mono _ _ _)
      | (with_reducible exact domesdayref13_Read.mono _ _ _)
      | (with_reducible exact domesdayref13_Same.mono _ _ _)
      | (with_reducible exact opts_Read.mono _ _ _)
      | (with_reducible exact LeO.refl _)
      | (with_reducible exact LeO.none _)
      | (with_reducible refine LeO.ite ?_ ?_)
      | (with_reducible refine LeO.bind ?_ (fun _ => ?_))
      | exact ih0 _ _ _
      | exact ih1 _ _ _
      | exact domesdaylaw13_awake.mono _
      | exact domesdayref11_Same.mono _ _ _
      | exact domesdayref13_Few.mono _ _ _
      | exact domesdayref13_Read.mono _ _ _
      | exact domesdayref13_Same.mono _ _ _
      | exact opts_Read.mono _ _ _
      | exact LeO.none _
      | refine LeO.ite ?_ ?_
      | refine LeO.bind ?_ (fun _ => ?_)
set_option maxHeartbeats 8000000 in
set_option maxRecDepth 100000 in
theorem domesdaylaw13_OptsReads.calls (k : Nat) (A0 : Option Addr) (c0 : Nat) (l0 : List (S42)) (A1 : Option Addr) (c1 : Nat) (l1 : List ByteArray) (r : Bool) (w : World) (hr0 : Kd.C k42 w A0 l0.length l0) (hc0 : l0.length ≤ c0) (hr1 : Kd.C Kd.string w A1 l1.length l1) (hc1 : l1.length ≤ c1) (h : domesdaylaw13_OptsReads.f k l0 l1 = some r) :
    Calls Try.prog 4 #[.slice A0 l0.length c0, .slice A1 l1.length c1] w fun e w' => e = .returned (.bool r) ∧ Below w.heap.size w w' := by
  have HR0 := Aside0.mk hr0
  have HC0 := Aside0.mk hc0
  clear hr0 hc0
  have HR1 := Aside0.mk hr1
  have HC1 := Aside0.mk hc1
  clear hr1 hc1
  have HB := Aside0.mk (Below.refl w.heap.size w)
  have H : ((domesdaylaw13_awake.f k).bind fun t167 => (if t167 = true then ((domesdayref13_Few.f k l0 l1).bind fun t168 => (domesdaylaw13_OptsReads.j0 k l0 l1 (!t168))) else (domesdaylaw13_OptsReads.j0 k l0 l1 true))) = some r := h
  clear h
  have HC3 := Aside0.mk H
  clear H
  go_enter Try.func4, Try.ntmps4
  go_upto_region 1 with (fail)
  go_cut [21] (fun v21 wc => ∃ (kq : Nat) (x21_2 : Bool), v21 = .bool x21_2 ∧ Aside0 (domesdaylaw13_OptsReads.j0 kq l0 l1 x21_2 = some r) ∧ Aside0 (kq ≤ k) ∧ Aside0 (Below w.heap.size w wc))
  case first =>
    have H := HC3.out
    clear HC3
    replace H := Option.bind_eq_some_iff.mp H
    obtain ⟨t167, A40, H⟩ := H
    replace H : (if t167 = true then ((domesdayref13_Few.f k l0 l1).bind fun t168 => (domesdaylaw13_OptsReads.j0 k l0 l1 (!t168))) else (domesdaylaw13_OptsReads.j0 k l0 l1 true)) = some r := H
    have A4 := Aside0.mk A40
    clear A40
    by_cases c5 : t167 = true
    · subst c5
      have H1 : ((domesdayref13_Few.f k l0 l1).bind fun t168 => (domesdaylaw13_OptsReads.j0 k l0 l1 (!t168))) = some r := by rw [if_pos rfl] at H; exact H
      clear H
      have H := H1
      clear H1
      replace H := Option.bind_eq_some_iff.mp H
      obtain ⟨t168, A60, H⟩ := H
      replace H : (domesdaylaw13_OptsReads.j0 k l0 l1 (!t168)) = some r := H
      have A6 := Aside0.mk A60
      clear A60
      have H' := Aside0.mk H
      clear H
      go_wp2_with (first | ((with_reducible refine gate_callee (f := 7) rfl ?_); refine goesL_ (some 14) rfl rfl Try.func7 (by kernel_rfl) rfl #[] rfl (by (try simp only [List.map_toArray, List.map_cons, List.map_nil]); first | done | rfl | (simp only [List.length_drop, List.length_take]; rfl)) ?_; (with_reducible refine (domesdaylaw13_awake.calls k  true _ A4.out).mono ?_); rintro e w7 ⟨rfl, hb⟩; refine ⟨_, rfl, ?_⟩; have n0_ := Aside0.mk (below_step (by repeat (first | (with_reducible first | exact HB.out | apply below_alloc | apply pw_below_drewN | apply below_drew1) | exact HB.out)) hb); clear HB; have HB := n0_; clear n0_; (try clear hb); (try clear hb2); (try clear hk); (try clear hi)) | (go_at_call 8; (with_reducible refine (domesdayref13_Few.calls k _ _ l0 _ _ l1 t168 _ ?side1 ?side2 ?side3 ?side4 A6.out).mono ?_); (case side1 => repeat (first | exact (Kd.C_below HR0.out HB.out) | (with_reducible refine Kd.C_alloc ?_ _) | (with_reducible refine Kd.C_drewN ?_ _) | (with_reducible refine Kd.C_drew ?_))); (case side2 => exact HC0.out); (case side3 => repeat (first | exact (Kd.C_below HR1.out HB.out) | (with_reducible refine Kd.C_alloc ?_ _) | (with_reducible refine Kd.C_drewN ?_ _) | (with_reducible refine Kd.C_drew ?_))); (case side4 => exact HC1.out); rintro e w' ⟨rfl, ⟨nd, rfl⟩⟩))
      go_meet
      case rel => exact ⟨_, (!t168), (by first | rfl | (simp; done) | (simp [*]; done)), H', ⟨by first | omega | exact Nat.le_refl _⟩, ⟨by repeat (first | (with_reducible first | exact HB.out | apply below_alloc | apply pw_below_drewN | apply below_drew1) | exact HB.out)⟩⟩
    · replace c5 := Bool.eq_false_iff.mpr c5
      subst c5
      have H1 : (domesdaylaw13_OptsReads.j0 k l0 l1 true) = some r := by rw [if_neg (show ¬ (false = true) by decide)] at H; exact H
      clear H
      have H := H1
      clear H1
      have H' := Aside0.mk H
      clear H
      go_wp2_with (first | ((with_reducible refine gate_callee (f := 7) rfl ?_); refine goesL_ (some 14) rfl rfl Try.func7 (by kernel_rfl) rfl #[] rfl (by (try simp only [List.map_toArray, List.map_cons, List.map_nil]); first | done | rfl | (simp only [List.length_drop, List.length_take]; rfl)) ?_; (with_reducible refine (domesdaylaw13_awake.calls k  false _ A4.out).mono ?_); rintro e w8 ⟨rfl, hb⟩; refine ⟨_, rfl, ?_⟩; have n0_ := Aside0.mk (below_step (by repeat (first | (with_reducible first | exact HB.out | apply below_alloc | apply pw_below_drewN | apply below_drew1) | exact HB.out)) hb); clear HB; have HB := n0_; clear n0_; (try clear hb); (try clear hb2); (try clear hk); (try clear hi)))
      go_meet
      case rel => exact ⟨_, (true), (by first | rfl | (simp; done) | (simp [*]; done)), H', ⟨by first | omega | exact Nat.le_refl _⟩, ⟨by repeat (first | (with_reducible first | exact HB.out | apply below_alloc | apply pw_below_drewN | apply below_drew1) | exact HB.out)⟩⟩
  case rest =>
    clear HC3
    try clear c1
    try clear p2
    try clear c4
    try clear c5
    try clear c7
    obtain ⟨kq, x21_2, rfl, HA, HJ2, HB⟩ := hcut
    cases kq with
    | zero => exact absurd HA.out (by simp [domesdaylaw13_OptsReads.j0])
    | succ kj2 =>
      have H := HA.out
      clear HA
      simp only [domesdaylaw13_OptsReads.j0] at H
      by_cases c9 : x21_2 = true
      · subst c9
        have H1 : ((domesdaylaw13_awake.f kj2).bind fun t169 => (some t169)) = some r := by rw [if_pos rfl] at H; exact H
        clear H
        have H := H1
        clear H1
        replace H := Option.bind_eq_some_iff.mp H
        obtain ⟨t169, A100, H⟩ := H
        replace H : (some t169) = some r := H
        have A10 := Aside0.mk A100
        clear A100
        obtain rfl := Option.some.inj H
        go_wp2_with (first | ((with_reducible refine gate_callee (f := 7) rfl ?_); refine goesL_ (some 22) rfl rfl Try.func7 (by kernel_rfl) rfl #[] rfl (by (try simp only [List.map_toArray, List.map_cons, List.map_nil]); first | done | rfl | (simp only [List.length_drop, List.length_take]; rfl)) ?_; (with_reducible refine (domesdaylaw13_awake.calls kj2  t169 _ A10.out).mono ?_); rintro e w11 ⟨rfl, hb⟩; refine ⟨_, rfl, ?_⟩; have n0_ := Aside0.mk (below_step (by repeat (first | (with_reducible first | exact HB.out | apply below_alloc | apply pw_below_drewN | apply below_drew1) | exact HB.out)) hb); clear HB; have HB := n0_; clear n0_; (try clear hb); (try clear hb2); (try clear hk); (try clear hi)))
        go_ret
        exact ⟨by first | rfl | (simp [errW_none, errW_some] <;> rfl) | (simp [*, errW_none, errW_some] <;> rfl), by repeat (first | (with_reducible first | exact HB.out | apply below_alloc | apply pw_below_drewN | apply below_drew1) | exact HB.out)⟩
      · replace c9 := Bool.eq_false_iff.mpr c9
        subst c9
        have H1 : ((some (([] : List ByteArray) : List ByteArray)).bind fun y170 => (if y170.length + l1.length < 8796093022208 then ((opts_Read.f kj2 l0 l1).bind fun bt176 => ((domesdayref13_Read.f kj2 l0 l1).bind fun bt184 => ((domesdayref11_Same.f kj2 l1 (y170 ++ l1)).bind fun t192 => (if t192 = true then ((domesdayref13_Same.f kj2 bt176.1 bt184.1).bind fun t193 => (if t193 = true then ((domesdayref11_Same.f kj2 bt176.2.1 bt184.2.1).bind fun t194 => (if t194 = true then (domesdaylaw13_OptsReads.j1 kj2 bt176.2.2.2 bt184.2.2.2 (bt176.2.2.1.toList != bt184.2.2.1.toList)) else (domesdaylaw13_OptsReads.j1 kj2 bt176.2.2.2 bt184.2.2.2 true))) else (domesdaylaw13_OptsReads.j1 kj2 bt176.2.2.2 bt184.2.2.2 true))) else (domesdaylaw13_OptsReads.j1 kj2 bt176.2.2.2 bt184.2.2.2 true))))) else (none))) = some r := by rw [if_neg (show ¬ (false = true) by decide)] at H; exact H
        clear H
        have H := H1
        clear H1
        obtain ⟨y170, hy170⟩ : ∃ y_ : List ByteArray, y_ = (([] : List ByteArray)) := ⟨_, rfl⟩
        replace H : (if y170.length + l1.length < 8796093022208 then ((opts_Read.f kj2 l0 l1).bind fun bt176 => ((domesdayref13_Read.f kj2 l0 l1).bind fun bt184 => ((domesdayref11_Same.f kj2 l1 (y170 ++ l1)).bind fun t192 => (if t192 = true then ((domesdayref13_Same.f kj2 bt176.1 bt184.1).bind fun t193 => (if t193 = true then ((domesdayref11_Same.f kj2 bt176.2.1 bt184.2.1).bind fun t194 => (if t194 = true then (domesdaylaw13_OptsReads.j1 kj2 bt176.2.2.2 bt184.2.2.2 (bt176.2.2.1.toList != bt184.2.2.1.toList)) else (domesdaylaw13_OptsReads.j1 kj2 bt176.2.2.2 bt184.2.2.2 true))) else (domesdaylaw13_OptsReads.j1 kj2 bt176.2.2.2 bt184.2.2.2 true))) else (domesdaylaw13_OptsReads.j1 kj2 bt176.2.2.2 bt184.2.2.2 true))))) else (none)) = some r := by first | (rw [hy170]; with_reducible exact H) | (have H2_ := (Option.bind_some _ _).symm.trans H; rw [hy170]; with_reducible exact H2_) | (have H2_ := (Option.bind_some _ _).symm.trans H; with_reducible exact H2_) | with_reducible exact H | (rw [hy170]; exact H) | exact H
        have Ny170 := Aside0.mk hy170
        clear hy170
        by_cases c12 : y170.length + l1.length < 8796093022208
        · rw [if_pos c12] at H
          have LMc12 := Aside0.mk c12
          clear c12
          obtain ⟨y173, hy173⟩ : ∃ y_ : List ByteArray, y_ = (y170 ++ l1) := ⟨_, rfl⟩
          replace H : ((opts_Read.f kj2 l0 l1).bind fun bt176 => ((domesdayref13_Read.f kj2 l0 l1).bind fun bt184 => ((domesdayref11_Same.f kj2 l1 y173).bind fun t192 => (if t192 = true then ((domesdayref13_Same.f kj2 bt176.1 bt184.1).bind fun t193 => (if t193 = true then ((domesdayref11_Same.f kj2 bt176.2.1 bt184.2.1).bind fun t194 => (if t194 = true then (domesdaylaw13_OptsReads.j1 kj2 bt176.2.2.2 bt184.2.2.2 (bt176.2.2.1.toList != bt184.2.2.1.toList)) else (domesdaylaw13_OptsReads.j1 kj2 bt176.2.2.2 bt184.2.2.2 true))) else (domesdaylaw13_OptsReads.j1 kj2 bt176.2.2.2 bt184.2.2.2 true))) else (domesdaylaw13_OptsReads.j1 kj2 bt176.2.2.2 bt184.2.2.2 true))))) = some r := by first | (rw [hy173]; with_reducible exact H) | (have H2_ := (Option.bind_some _ _).symm.trans H; rw [hy173]; with_reducible exact H2_) | (have H2_ := (Option.bind_some _ _).symm.trans H; with_reducible exact H2_) | with_reducible exact H | (rw [hy173]; exact H) | exact H
          have Ny173 := Aside0.mk hy173
          clear hy173
          replace H := Option.bind_eq_some_iff.mp H
          obtain ⟨⟨t176, t177, t178, t179⟩, A130, H⟩ := H
          replace H : ((domesdayref13_Read.f kj2 l0 l1).bind fun bt184 => ((domesdayref11_Same.f kj2 l1 y173).bind fun t192 => (if t192 = true then ((domesdayref13_Same.f kj2 t176 bt184.1).bind fun t193 => (if t193 = true then ((domesdayref11_Same.f kj2 t177 bt184.2.1).bind fun t194 => (if t194 = true then (domesdaylaw13_OptsReads.j1 kj2 t179 bt184.2.2.2 (t178.toList != bt184.2.2.1.toList)) else (domesdaylaw13_OptsReads.j1 kj2 t179 bt184.2.2.2 true))) else (domesdaylaw13_OptsReads.j1 kj2 t179 bt184.2.2.2 true))) else (domesdaylaw13_OptsReads.j1 kj2 t179 bt184.2.2.2 true)))) = some r := H
          have A13 := Aside0.mk A130
          clear A130
          replace H := Option.bind_eq_some_iff.mp H
          obtain ⟨⟨t184, t185, t186, t187⟩, A140, H⟩ := H
          replace H : ((domesdayref11_Same.f kj2 l1 y173).bind fun t192 => (if t192 = true then ((domesdayref13_Same.f kj2 t176 t184).bind fun t193 => (if t193 = true then ((domesdayref11_Same.f kj2 t177 t185).bind fun t194 => (if t194 = true then (domesdaylaw13_OptsReads.j1 kj2 t179 t187 (t178.toList != t186.toList)) else (domesdaylaw13_OptsReads.j1 kj2 t179 t187 true))) else (domesdaylaw13_OptsReads.j1 kj2 t179 t187 true))) else (domesdaylaw13_OptsReads.j1 kj2 t179 t187 true))) = some r := H
          have A14 := Aside0.mk A140
          clear A140
          have HC15 := Aside0.mk H
          clear H
          go_upto_region 6 with (first | ((with_reducible refine gate_dst (N := 23) rfl ?_); refine Kd.R_lit Kd.string _ 9 ?hg (N := 23) ?hd (xs := ([] : List ByteArray)) (inner := []) (ok := fun _ => True) (okp := fun _ => True) ?hr ?hp (fun _ hk => hk) trivial (Below.refl _ _) (Nat.le_refl _) (by simp) ?_; (case hd => rfl); (case hg => rfl); (case hr => first | (go_simp; done) | (go_simp; rfl)); (case hp => exact (Reps.none _ _)); intro v171 w16 ho17 hb hg_ hnew_; clear hg_ hnew_; (first | rw [← Ny170.out] at ho17 | (simp only [Int.reduceToNat] at ho17; rw [← Ny170.out] at ho17)); have n0_ := Aside0.mk (Kd.R_lower ho17 (below_size (by repeat (first | (with_reducible first | exact HB.out | apply below_alloc | apply pw_below_drewN | apply below_drew1) | exact HB.out)))); have n1_ := Aside0.mk (below_step (by repeat (first | (with_reducible first | exact HB.out | apply below_alloc | apply pw_below_drewN | apply below_drew1) | exact HB.out)) hb); clear HB; have HO172 := n0_; have HB := n1_; clear n0_ n1_; clear hb ho17) | ((with_reducible refine gate_builtin (b := .append) (xs := #[.tmp 23, .tmp 24]) rfl ?_); at_builtin; refine Kd.R_append_rows Kd.string (w0 := w) w.heap.size rfl (.tmp 23) (.tmp 24) 23 9 (.string ⟨#[]⟩) 16 rfl Try.underlying23 info9 rfl (by decide) (by omega) v171 y170 l1 _ _ _ (fun _ => True) (fun _ => False) rfl rfl ?aO ?aR (fun _ _ h => h) (fun _ h => h.elim) ?aF ?aB ?aS ?aL ?_; (case aR => repeat (first | exact (Kd.C_below HR1.out HB.out) | (with_reducible refine Kd.C_alloc ?_ _) | (with_reducible refine Kd.C_drewN ?_ _) | (with_reducible refine Kd.C_drew ?_))); (case aB => exact (by repeat (first | (with_reducible first | exact HB.out | apply below_alloc | apply pw_below_drewN | apply below_drew1) | exact HB.out))); (case aF => exact (fun _ _ => trivial)); (case aO => exact (by (with_reducible repeat (first | apply Kd.R_alloc | apply Kd.R_drewN | apply Kd.R_drew)); exact HO172.out)); (case aS => exact (below_size (by repeat (first | (with_reducible first | exact HB.out | apply below_alloc | apply pw_below_drewN | apply below_drew1) | exact HB.out)))); (case aL => have := LMc12.out; omega); intro v174 w18 ho hb hg hat; rw [← Ny173.out] at ho; have n0_ := Aside0.mk (hb); have n1_ := Aside0.mk (ho); clear HB; clear HO172; have HB := n0_; have HO175 := n1_; clear n0_ n1_; clear ho hb hg hat) | ((with_reducible refine gate_callee (f := 9) rfl ?_); refine goesL_ (some 29) rfl rfl Try.func9 (by kernel_rfl) rfl #[.slice A0 l0.length c0, .slice A1 l1.length c1] rfl (by (try simp only [List.map_toArray, List.map_cons, List.map_nil]); first | done | rfl | (simp only [List.length_drop, List.length_take]; rfl)) ?_; (with_reducible refine (opts_Read.calls kj2 _ _ l0 _ _ l1 t176 t177 t178 t179 _ ?side1 ?side2 ?side3 ?side4 A13.out).mono ?_); (case side1 => repeat (first | exact (Kd.C_below HR0.out HB.out) | (with_reducible refine Kd.C_alloc ?_ _) | (with_reducible refine Kd.C_drewN ?_ _) | (with_reducible refine Kd.C_drew ?_))); (case side2 => exact HC0.out); (case side3 => repeat (first | exact (Kd.C_below HR1.out HB.out) | (with_reducible refine Kd.C_alloc ?_ _) | (with_reducible refine Kd.C_drewN ?_ _) | (with_reducible refine Kd.C_drew ?_))); (case side4 => exact HC1.out); rintro e w19 ⟨v180, v182, rfl, ho0, ho1, hb⟩; refine ⟨_, rfl, ?_⟩; have n0_ := Aside0.mk (Kd.R_elder' (by (with_reducible repeat (first | apply Kd.R_alloc | apply Kd.R_drewN | apply Kd.R_drew)); exact HO175.out) (Kd.R_base ho1) hb); have n1_ := Aside0.mk (Kd.R_lower ho0 (below_size (by repeat (first | (with_reducible first | exact HB.out | apply below_alloc | apply pw_below_drewN | apply below_drew1) | exact HB.out)))); have n2_ := Aside0.mk (Kd.R_lower (Kd.R_new' ho1 (Kd.R_lt (by (with_reducible repeat (first | apply Kd.R_alloc | apply Kd.R_drewN | apply Kd.R_drew)); exact HO175.out))) (below_size (by repeat (first | (with_reducible first | exact HB.out | apply below_alloc | apply pw_below_drewN | apply below_drew1) | exact HB.out)))); have n3_ := Aside0.mk (below_step (by repeat (first | (with_reducible first | exact HB.out | apply below_alloc | apply pw_below_drewN | apply below_drew1) | exact HB.out)) hb); clear HO175; clear HB; have HO175 := n0_; have HO181 := n1_; have HO183 := n2_; have HB := n3_; clear n0_ n1_ n2_ n3_; (try clear hb); (try clear hb2); (try clear hk); (try clear hi); (try clear ho0); (try clear ho1)) | ((with_reducible refine gate_callee (f := 11) rfl ?_); refine goesL_ (some 37) rfl rfl Try.func11 (by kernel_rfl) rfl #[.slice A0 l0.length c0, .slice A1 l1.length c1] rfl (by (try simp only [List.map_toArray, List.map_cons, List.map_nil]); first | done | rfl | (simp only [List.length_drop, List.length_take]; rfl)) ?_; (with_reducible refine (domesdayref13_Read.calls kj2 _ _ l0 _ _ l1 t184 t185 t186 t187 _ ?side1 ?side2 ?side3 ?side4 A14.out).mono ?_); (case side1 => repeat (first | exact (Kd.C_below HR0.out HB.out) | (with_reducible refine Kd.C_alloc ?_ _) | (with_reducible refine Kd.C_drewN ?_ _) | (with_reducible refine Kd.C_drew ?_))); (case side2 => exact HC0.out); (case side3 => repeat (first | exact (Kd.C_below HR1.out HB.out) | (with_reducible refine Kd.C_alloc ?_ _) | (with_reducible refine Kd.C_drewN ?_ _) | (with_reducible refine Kd.C_drew ?_))); (case side4 => exact HC1.out); rintro e w20 ⟨v188, v190, rfl, ho0, ho1, hb⟩; refine ⟨_, rfl, ?_⟩; have n0_ := Aside0.mk (Kd.R_elder' (by (with_reducible repeat (first | apply Kd.R_alloc | apply Kd.R_drewN | apply Kd.R_drew)); exact HO175.out) (Kd.R_base ho1) hb); have n1_ := Aside0.mk (Kd.R_elder' (by (with_reducible repeat (first | apply Kd.R_alloc | apply Kd.R_drewN | apply Kd.R_drew)); exact HO181.out) (Kd.R_base ho0) hb); have n2_ := Aside0.mk (Kd.R_elder' (by (with_reducible repeat (first | apply Kd.R_alloc | apply Kd.R_drewN | apply Kd.R_drew)); exact HO183.out) (Kd.R_base ho1) hb); have n3_ := Aside0.mk (Kd.R_lower (Kd.R_new' ho0 (Kd.R_lt (by (with_reducible repeat (first | apply Kd.R_alloc | apply Kd.R_drewN | apply Kd.R_drew)); exact HO181.out))) (below_size (by repeat (first | (with_reducible first | exact HB.out | apply below_alloc | apply pw_below_drewN | apply below_drew1) | exact HB.out)))); have n4_ := Aside0.mk (Kd.R_lower (Kd.R_new' (Kd.R_new' ho1 (Kd.R_lt (by (with_reducible repeat (first | apply Kd.R_alloc | apply Kd.R_drewN | apply Kd.R_drew)); exact HO175.out))) (Kd.R_lt (by (with_reducible repeat (first | apply Kd.R_alloc | apply Kd.R_drewN | apply Kd.R_drew)); exact HO183.out))) (below_size (by repeat (first | (with_reducible first | exact HB.out | apply below_alloc | apply pw_below_drewN | apply below_drew1) | exact HB.out)))); have n5_ := Aside0.mk (below_step (by repeat (first | (with_reducible first | exact HB.out | apply below_alloc | apply pw_below_drewN | apply below_drew1) | exact HB.out)) hb); clear HO175; clear HO181; clear HO183; clear HB; have HO175 := n0_; have HO181 := n1_; have HO183 := n2_; have HO189 := n3_; have HO191 := n4_; have HB := n5_; clear n0_ n1_ n2_ n3_ n4_ n5_; (try clear hb); (try clear hb2); (try clear hk); (try clear hi); (try clear ho0); (try clear ho1)))
          (try simp only [Act.put, List.setIfInBounds_toArray, List.set_cons_zero, List.set_cons_succ])
          go_cut [62] (fun v62 wc => ∃ (kq : Nat) (x62_14 : Bool), v62 = .bool x62_14 ∧ Aside0 (domesdaylaw13_OptsReads.j1 kq t179 t187 x62_14 = some r) ∧ Aside0 (kq ≤ kj2) ∧ Aside0 (Below w.heap.size w wc))
          case first =>
            have H := HC15.out
            clear HC15
            replace H := Option.bind_eq_some_iff.mp H
            obtain ⟨t192, A210, H⟩ := H
            replace H : (if t192 = true then ((domesdayref13_Same.f kj2 t176 t184).bind fun t193 => (if t193 = true then ((domesdayref11_Same.f kj2 t177 t185).bind fun t194 => (if t194 = true then (domesdaylaw13_OptsReads.j1 kj2 t179 t187 (t178.toList != t186.toList)) else (domesdaylaw13_OptsReads.j1 kj2 t179 t187 true))) else (domesdaylaw13_OptsReads.j1 kj2 t179 t187 true))) else (domesdaylaw13_OptsReads.j1 kj2 t179 t187 true)) = some r := H
            have A21 := Aside0.mk A210
            clear A210
            by_cases c22 : t192 = true
            · subst c22
              have H1 : ((domesdayref13_Same.f kj2 t176 t184).bind fun t193 => (if t193 = true then ((domesdayref11_Same.f kj2 t177 t185).bind fun t194 => (if t194 = true then (domesdaylaw13_OptsReads.j1 kj2 t179 t187 (t178.toList != t186.toList)) else (domesdaylaw13_OptsReads.j1 kj2 t179 t187 true))) else (domesdaylaw13_OptsReads.j1 kj2 t179 t187 true))) = some r := by rw [if_pos rfl] at H; exact H
              clear H
              have H := H1
              clear H1
              replace H := Option.bind_eq_some_iff.mp H
              obtain ⟨t193, A230, H⟩ := H
              replace H : (if t193 = true then ((domesdayref11_Same.f kj2 t177 t185).bind fun t194 => (if t194 = true then (domesdaylaw13_OptsReads.j1 kj2 t179 t187 (t178.toList != t186.toList)) else (domesdaylaw13_OptsReads.j1 kj2 t179 t187 true))) else (domesdaylaw13_OptsReads.j1 kj2 t179 t187 true)) = some r := H
              have A23 := Aside0.mk A230
              clear A230
              by_cases c24 : t193 = true
              · subst c24
                have H1 : ((domesdayref11_Same.f kj2 t177 t185).bind fun t194 => (if t194 = true then (domesdaylaw13_OptsReads.j1 kj2 t179 t187 (t178.toList != t186.toList)) else (domesdaylaw13_OptsReads.j1 kj2 t179 t187 true))) = some r := by rw [if_pos rfl] at H; exact H
                clear H
                have H := H1
                clear H1
                replace H := Option.bind_eq_some_iff.mp H
                obtain ⟨t194, A250, H⟩ := H
                replace H : (if t194 = true then (domesdaylaw13_OptsReads.j1 kj2 t179 t187 (t178.toList != t186.toList)) else (domesdaylaw13_OptsReads.j1 kj2 t179 t187 true)) = some r := H
                have A25 := Aside0.mk A250
                clear A250
                by_cases c26 : t194 = true
                · subst c26
                  have H1 : (domesdaylaw13_OptsReads.j1 kj2 t179 t187 (t178.toList != t186.toList)) = some r := by rw [if_pos rfl] at H; exact H
                  clear H
                  have H := H1
                  clear H1
                  have H' := Aside0.mk H
                  clear H
                  obtain ⟨Ao27, co27, eo27⟩ := Kd.R_slice HO175.out
                  subst eo27
                  go_wp2_with (first | ((with_reducible refine gate_callee (f := 10) rfl ?_); refine goesL_ (some 44) rfl rfl Try.func10 (by kernel_rfl) rfl #[.slice A1 l1.length c1, .slice Ao27 y173.length co27] rfl (by (try simp only [List.map_toArray, List.map_cons, List.map_nil]); first | done | rfl | (simp only [List.length_drop, List.length_take]; rfl)) ?_; (with_reducible refine (domesdayref11_Same.calls kj2 _ _ l1 _ _ y173 true _ ?side1 ?side2 ?side3 ?side4 A21.out).mono ?_); (case side1 => repeat (first | exact (Kd.C_below HR1.out HB.out) | (with_reducible refine Kd.C_alloc ?_ _) | (with_reducible refine Kd.C_drewN ?_ _) | (with_reducible refine Kd.C_drew ?_))); (case side2 => exact HC1.out); (case side3 => repeat (first | exact (Kd.R_reads' HO175.out).2.2 | (with_reducible refine Kd.C_alloc ?_ _) | (with_reducible refine Kd.C_drewN ?_ _) | (with_reducible refine Kd.C_drew ?_))); (case side4 => exact (Kd.R_reads' HO175.out).2.1); rintro e w' ⟨rfl, ⟨nd, rfl⟩⟩; refine ⟨_, rfl, ?_⟩; obtain ⟨Ao28, co28, eo28⟩ := Kd.R_slice HO181.out; subst eo28; obtain ⟨Ao29, co29, eo29⟩ := Kd.R_slice HO189.out; subst eo29) | (go_at_call 12; (with_reducible refine (domesdayref13_Same.calls kj2 _ _ t176 _ _ t184 true _ ?side1 ?side2 ?side3 ?side4 A23.out).mono ?_); (case side1 => repeat (first | exact (Kd.R_reads' HO181.out).2.2 | (with_reducible refine Kd.C_alloc ?_ _) | (with_reducible refine Kd.C_drewN ?_ _) | (with_reducible refine Kd.C_drew ?_))); (case side2 => exact (Kd.R_reads' HO181.out).2.1); (case side3 => repeat (first | exact (Kd.R_reads' HO189.out).2.2 | (with_reducible refine Kd.C_alloc ?_ _) | (with_reducible refine Kd.C_drewN ?_ _) | (with_reducible refine Kd.C_drew ?_))); (case side4 => exact (Kd.R_reads' HO189.out).2.1); rintro e w' ⟨rfl, ⟨nd, rfl⟩⟩; obtain ⟨Ao30, co30, eo30⟩ := Kd.R_slice HO183.out; subst eo30; obtain ⟨Ao31, co31, eo31⟩ := Kd.R_slice HO191.out; subst eo31) | (go_at_call 10; (with_reducible refine (domesdayref11_Same.calls kj2 _ _ t177 _ _ t185 true _ ?side1 ?side2 ?side3 ?side4 A25.out).mono ?_); (case side1 => repeat (first | exact (Kd.R_reads' HO183.out).2.2 | (with_reducible refine Kd.C_alloc ?_ _) | (with_reducible refine Kd.C_drewN ?_ _) | (with_reducible refine Kd.C_drew ?_))); (case side2 => exact (Kd.R_reads' HO183.out).2.1); (case side3 => repeat (first | exact (Kd.R_reads' HO191.out).2.2 | (with_reducible refine Kd.C_alloc ?_ _) | (with_reducible refine Kd.C_drewN ?_ _) | (with_reducible refine Kd.C_drew ?_))); (case side4 => exact (Kd.R_reads' HO191.out).2.1); rintro e w' ⟨rfl, ⟨nd, rfl⟩⟩))
                  go_meet
                  case rel => exact ⟨_, ((t178.toList != t186.toList)), (by first | rfl | (simp; done) | (simp [*]; done) | (generalize ByteArray.toList _ = z_; cases z_ <;> rfl)), H', ⟨by have := HJ2.out; first | omega | exact Nat.le_refl _⟩, ⟨by repeat (first | (with_reducible first | exact HB.out | apply below_alloc | apply pw_below_drewN | apply below_drew1) | exact HB.out)⟩⟩
                · replace c26 := Bool.eq_false_iff.mpr c26
                  subst c26
                  have H1 : (domesdaylaw13_OptsReads.j1 kj2 t179 t187 true) = some r := by rw [if_neg (show ¬ (false = true) by decide)] at H; exact H
                  clear H
                  have H := H1
                  clear H1
                  have H' := Aside0.mk H
                  clear H
                  obtain ⟨Ao32, co32, eo32⟩ := Kd.R_slice HO175.out
                  subst eo32
                  go_wp2_with (first | ((with_reducible refine gate_callee (f := 10) rfl ?_); refine goesL_ (some 44) rfl rfl Try.func10 (by kernel_rfl) rfl #[.slice A1 l1.length c1, .slice Ao32 y173.length co32] rfl (by (try simp only [List.map_toArray, List.map_cons, List.map_nil]); first | done | rfl | (simp only [List.length_drop, List.length_take]; rfl)) ?_; (with_reducible refine (domesdayref11_Same.calls kj2 _ _ l1 _ _ y173 true _ ?side1 ?side2 ?side3 ?side4 A21.out).mono ?_); (case side1 => repeat (first | exact (Kd.C_below HR1.out HB.out) | (with_reducible refine Kd.C_alloc ?_ _) | (with_reducible refine Kd.C_drewN ?_ _) | (with_reducible refine Kd.C_drew ?_))); (case side2 => exact HC1.out); (case side3 => repeat (first | exact (Kd.R_reads' HO175.out).2.2 | (with_reducible refine Kd.C_alloc ?_ _) | (with_reducible refine Kd.C_drewN ?_ _) | (with_reducible refine Kd.C_drew ?_))); (case side4 => exact (Kd.R_reads' HO175.out).2.1); rintro e w' ⟨rfl, ⟨nd, rfl⟩⟩; refine ⟨_, rfl, ?_⟩; obtain ⟨Ao33, co33, eo33⟩ := Kd.R_slice HO181.out; subst eo33; obtain ⟨Ao34, co34, eo34⟩ := Kd.R_slice HO189.out; subst eo34) | (go_at_call 12; (with_reducible refine (domesdayref13_Same.calls kj2 _ _ t176 _ _ t184 true _ ?side1 ?side2 ?side3 ?side4 A23.out).mono ?_); (case side1 => repeat (first | exact (Kd.R_reads' HO181.out).2.2 | (with_reducible refine Kd.C_alloc ?_ _) | (with_reducible refine Kd.C_drewN ?_ _) | (with_reducible refine Kd.C_drew ?_))); (case side2 => exact (Kd.R_reads' HO181.out).2.1); (case side3 => repeat (first | exact (Kd.R_reads' HO189.out).2.2 | (with_reducible refine Kd.C_alloc ?_ _) | (with_reducible refine Kd.C_drewN ?_ _) | (with_reducible refine Kd.C_drew ?_))); (case side4 => exact (Kd.R_reads' HO189.out).2.1); rintro e w' ⟨rfl, ⟨nd, rfl⟩⟩; obtain ⟨Ao35, co35, eo35⟩ := Kd.R_slice HO183.out; subst eo35; obtain ⟨Ao36, co36, eo36⟩ := Kd.R_slice HO191.out; subst eo36) | (go_at_call 10; (with_reducible refine (domesdayref11_Same.calls kj2 _ _ t177 _ _ t185 false _ ?side1 ?side2 ?side3 ?side4 A25.out).mono ?_); (case side1 => repeat (first | exact (Kd.R_reads' HO183.out).2.2 | (with_reducible refine Kd.C_alloc ?_ _) | (with_reducible refine Kd.C_drewN ?_ _) | (with_reducible refine Kd.C_drew ?_))); (case side2 => exact (Kd.R_reads' HO183.out).2.1); (case side3 => repeat (first | exact (Kd.R_reads' HO191.out).2.2 | (with_reducible refine Kd.C_alloc ?_ _) | (with_reducible refine Kd.C_drewN ?_ _) | (with_reducible refine Kd.C_drew ?_))); (case side4 => exact (Kd.R_reads' HO191.out).2.1); rintro e w' ⟨rfl, ⟨nd, rfl⟩⟩))
                  go_meet
                  case rel => exact ⟨_, (true), (by first | rfl | (simp; done) | (simp [*]; done)), H', ⟨by have := HJ2.out; first | omega | exact Nat.le_refl _⟩, ⟨by repeat (first | (with_reducible first | exact HB.out | apply below_alloc | apply pw_below_drewN | apply below_drew1) | exact HB.out)⟩⟩
              · replace c24 := Bool.eq_false_iff.mpr c24
                subst c24
                have H1 : (domesdaylaw13_OptsReads.j1 kj2 t179 t187 true) = some r := by rw [if_neg (show ¬ (false = true) by decide)] at H; exact H
                clear H
                have H := H1
                clear H1
                have H' := Aside0.mk H
                clear H
                obtain ⟨Ao37, co37, eo37⟩ := Kd.R_slice HO175.out
                subst eo37
                go_wp2_with (first | ((with_reducible refine gate_callee (f := 10) rfl ?_); refine goesL_ (some 44) rfl rfl Try.func10 (by kernel_rfl) rfl #[.slice A1 l1.length c1, .slice Ao37 y173.length co37] rfl (by (try simp only [List.map_toArray, List.map_cons, List.map_nil]); first | done | rfl | (simp only [List.length_drop, List.length_take]; rfl)) ?_; (with_reducible refine (domesdayref11_Same.calls kj2 _ _ l1 _ _ y173 true _ ?side1 ?side2 ?side3 ?side4 A21.out).mono ?_); (case side1 => repeat (first | exact (Kd.C_below HR1.out HB.out) | (with_reducible refine Kd.C_alloc ?_ _) | (with_reducible refine Kd.C_drewN ?_ _) | (with_reducible refine Kd.C_drew ?_))); (case side2 => exact HC1.out); (case side3 => repeat (first | exact (Kd.R_reads' HO175.out).2.2 | (with_reducible refine Kd.C_alloc ?_ _) | (with_reducible refine Kd.C_drewN ?_ _) | (with_reducible refine Kd.C_drew ?_))); (case side4 => exact (Kd.R_reads' HO175.out).2.1); rintro e w' ⟨rfl, ⟨nd, rfl⟩⟩; refine ⟨_, rfl, ?_⟩; obtain ⟨Ao38, co38, eo38⟩ := Kd.R_slice HO181.out; subst eo38; obtain ⟨Ao39, co39, eo39⟩ := Kd.R_slice HO189.out; subst eo39) | (go_at_call 12; (with_reducible refine (domesdayref13_Same.calls kj2 _ _ t176 _ _ t184 false _ ?side1 ?side2 ?side3 ?side4 A23.out).mono ?_); (case side1 => repeat (first | exact (Kd.R_reads' HO181.out).2.2 | (with_reducible refine Kd.C_alloc ?_ _) | (with_reducible refine Kd.C_drewN ?_ _) | (with_reducible refine Kd.C_drew ?_))); (case side2 => exact (Kd.R_reads' HO181.out).2.1); (case side3 => repeat (first | exact (Kd.R_reads' HO189.out).2.2 | (with_reducible refine Kd.C_alloc ?_ _) | (with_reducible refine Kd.C_drewN ?_ _) | (with_reducible refine Kd.C_drew ?_))); (case side4 => exact (Kd.R_reads' HO189.out).2.1); rintro e w' ⟨rfl, ⟨nd, rfl⟩⟩))
                go_meet
                case rel => exact ⟨_, (true), (by first | rfl | (simp; done) | (simp [*]; done)), H', ⟨by have := HJ2.out; first | omega | exact Nat.le_refl _⟩, ⟨by repeat (first | (with_reducible first | exact HB.out | apply below_alloc | apply pw_below_drewN | apply below_drew1) | exact HB.out)⟩⟩
            · replace c22 := Bool.eq_false_iff.mpr c22
              subst c22
              have H1 : (domesdaylaw13_OptsReads.j1 kj2 t179 t187 true) = some r := by rw [if_neg (show ¬ (false = true) by decide)] at H; exact H
              clear H
              have H := H1
              clear H1
              have H' := Aside0.mk H
              clear H
              obtain ⟨Ao40, co40, eo40⟩ := Kd.R_slice HO175.out
              subst eo40
              go_wp2_with (first | ((with_reducible refine gate_callee (f := 10) rfl ?_); refine goesL_ (some 44) rfl rfl Try.func10 (by kernel_rfl) rfl #[.slice A1 l1.length c1, .slice Ao40 y173.length co40] rfl (by (try simp only [List.map_toArray, List.map_cons, List.map_nil]); first | done | rfl | (simp only [List.length_drop, List.length_take]; rfl)) ?_; (with_reducible refine (domesdayref11_Same.calls kj2 _ _ l1 _ _ y173 false _ ?side1 ?side2 ?side3 ?side4 A21.out).mono ?_); (case side1 => repeat (first | exact (Kd.C_below HR1.out HB.out) | (with_reducible refine Kd.C_alloc ?_ _) | (with_reducible refine Kd.C_drewN ?_ _) | (with_reducible refine Kd.C_drew ?_))); (case side2 => exact HC1.out); (case side3 => repeat (first | exact (Kd.R_reads' HO175.out).2.2 | (with_reducible refine Kd.C_alloc ?_ _) | (with_reducible refine Kd.C_drewN ?_ _) | (with_reducible refine Kd.C_drew ?_))); (case side4 => exact (Kd.R_reads' HO175.out).2.1); rintro e w' ⟨rfl, ⟨nd, rfl⟩⟩; refine ⟨_, rfl, ?_⟩))
              go_meet
              case rel => exact ⟨_, (true), (by first | rfl | (simp; done) | (simp [*]; done)), H', ⟨by have := HJ2.out; first | omega | exact Nat.le_refl _⟩, ⟨by repeat (first | (with_reducible first | exact HB.out | apply below_alloc | apply pw_below_drewN | apply below_drew1) | exact HB.out)⟩⟩
          case rest =>
            clear HC15
            try clear c1
            try clear c2
            try clear p2
            try clear c4
            try clear c5
            try clear c7
            try clear c9
            try clear c10
            try clear c11
            try clear c12
            try clear c22
            try clear c24
            try clear c26
            try clear p2
            obtain ⟨kq, x62_14, rfl, HA, HJ14, HB⟩ := hcut
            cases kq with
            | zero => exact absurd HA.out (by simp [domesdaylaw13_OptsReads.j1])
            | succ kj14 =>
              have H := HA.out
              clear HA
              simp only [domesdaylaw13_OptsReads.j1] at H
              by_cases c41 : x62_14 = true
              · subst c41
                have H1 : (none) = some r := by rw [if_pos rfl] at H; exact H
                clear H
                have H := H1
                clear H1
                exact absurd H (by simp)
              · replace c41 := Bool.eq_false_iff.mpr c41
                subst c41
                have H1 : (if t187 = true then (some (t179 == 0)) else (some (t179 == 10))) = some r := by rw [if_neg (show ¬ (false = true) by decide)] at H; exact H
                clear H
                have H := H1
                clear H1
                by_cases c42 : t187 = true
                · subst c42
                  have H1 : (some (t179 == 0)) = some r := by rw [if_pos rfl] at H; exact H
                  clear H
                  have H := H1
                  clear H1
                  obtain rfl := Option.some.inj H
                  go_wp2
                  go_ret
                  exact ⟨by first | rfl | (simp [errW_none, errW_some] <;> rfl) | (simp [*, errW_none, errW_some] <;> rfl), by repeat (first | (with_reducible first | exact HB.out | apply below_alloc | apply pw_below_drewN | apply below_drew1) | exact HB.out)⟩
                · replace c42 := Bool.eq_false_iff.mpr c42
                  subst c42
                  have H1 : (some (t179 == 10)) = some r := by rw [if_neg (show ¬ (false = true) by decide)] at H; exact H
                  clear H
                  have H := H1
                  clear H1
                  obtain rfl := Option.some.inj H
                  go_wp2
                  go_ret
                  exact ⟨by first | rfl | (simp [errW_none, errW_some] <;> rfl) | (simp [*, errW_none, errW_some] <;> rfl), by repeat (first | (with_reducible first | exact HB.out | apply below_alloc | apply pw_below_drewN | apply below_drew1) | exact HB.out)⟩
        · rw [if_neg c12] at H
          exact absurd H (by simp)
end Go.Proofs.Ytljlhknpfnphnaa.QOpts
