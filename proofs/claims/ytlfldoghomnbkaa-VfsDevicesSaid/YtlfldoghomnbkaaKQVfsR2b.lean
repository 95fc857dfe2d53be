import Derived.Test.YtlfldoghomnbkaaKQVfsR2
-- Texts of this seat, what the claim does not reach struck out by a program.
namespace Go.Proofs.Ytlfldoghomnbkaa.QVfs
open Go.RowKit Go.Proofs.YtlfldoghomnbkaaW.PrintWords Go.Proofs.YtlfldoghomnbkaaW.PrintLast Go.Proofs.YtlfldoghomnbkaaW.PrintMore
attribute [local go_sem] max2_int min2_int max_two min_two max_three min_three max_four min_four
set_option linter.unusedVariables false
set_option linter.unusedSimpArgs false
def r6FS_device.f (k : Nat) (l0_0 : List (S36)) (l0_1 : List (S81)) (l0_2 : List Int) (l0_3 : List Bool) (l0_4 : List Int) (l0_5 : List Int) (a1 : Int) (a2 : Int) : Option ((List (S36)) × (List (S81)) × List Int × List Bool × List Int × List Int) := (some (([] : List Int) : List Int)).bind fun y155 => (if y155.length + l0_5.length < 17592186044416 then ((some (y155 ++ l0_5 : List Int)).bind fun y158 => ((some (([(l0_0.length : Int)] : List Int) : List Int)).bind fun y161 => (if y158.length + y161.length < 17592186044416 then ((some (y158 ++ y161 : List Int)).bind fun y164 => ((r6bits.f a1).bind fun t167 => ((r6FS_add.f k l0_0 l0_1 l0_2 l0_3 l0_4 y164 (y164.length : Int) 0 2 t167 0 0 4096 8 0 0 0 0 (⟨#[]⟩ : ByteArray) a2).bind fun bt168 => (some (bt168.1, bt168.2.1, bt168.2.2.1, bt168.2.2.2.1, bt168.2.2.2.2.1, bt168.2.2.2.2.2))))) else (none)))) else (none))
theorem r6FS_device.mono : ∀ a0 a1 a2 a3 a4 a5 a6 a7 k, LeO (r6FS_device.f k a0 a1 a2 a3 a4 a5 a6 a7) (r6FS_device.f (k + 1) a0 a1 a2 a3 a4 a5 a6 a7) := by
 intro a0 a1 a2 a3 a4 a5 a6 a7 k
 unfold r6FS_device.f
 repeat' first
   | (with_reducible exact r6FS_add.mono _ _ _ _ _ _ _ _ _ _ _ _ _ _ _ _ _ _ _ _ _)
   | (with_reducible exact LeO.refl _)
   | (with_reducible exact LeO.none _)
   | (with_reducible refine LeO.ite ?_ ?_)
   | (with_reducible refine LeO.bind ?_ (fun _ => ?_))
   | exact r6FS_add.mono _ _ _ _ _ _ _ _ _ _ _ _ _ _ _ _ _ _ _ _ _
   | exact LeO.none _
   | refine LeO.ite ?_ ?_
   | refine LeO.bind ?_ (fun _ => ?_)
def r6FS_device.T1 : Bool × List (List Nat × List Nat) := (true, [([], []), ([], []), ([1], [1]), ([0, 2], [0, 2]), ([], []), ([4], [4]), ([5], [5]), ([6], [6]), ([3, 7, 3], [3, 7]), ([0, 1, 2, 3, 4, 5, 6, 7, 8], []), ([9, 8, 8, 0, 1, 2, 3, 4, 5, 6, 7, 8], [8, 9])])
def r6FS_device.B1 : List Nat := [0, 0, 2, 7, 0, 16, 48, 112, 255, 511, 1023]
theorem r6FS_device.tab1 : rtab .any (opsOf Try.f30 1) = r6FS_device.T1 := by kernel_rfl
theorem r6FS_device.bits1 : waitsOk r6FS_device.T1.2 r6FS_device.B1 = true := by kernel_rfl
def r6FS_device.T2 : Bool × List (List Nat × List Nat) := (true, [([], []), ([], []), ([1], [1]), ([2], [2]), ([], []), ([4], [4]), ([3, 5], [3, 5]), ([], []), ([0, 6, 7, 5], [0, 6, 7]), ([8, 8, 0, 1, 2, 3, 4, 5, 6, 7, 8], [8])])
def r6FS_device.B2 : List Nat := [0, 0, 2, 6, 0, 16, 62, 0, 255, 511]
theorem r6FS_device.tab2 : rtab .any (opsOf Try.f30 2) = r6FS_device.T2 := by kernel_rfl
theorem r6FS_device.bits2 : waitsOk r6FS_device.T2.2 r6FS_device.B2 = true := by kernel_rfl
set_option maxHeartbeats 8000000 in
set_option maxRecDepth 100000 in
theorem r6FS_device.calls (k : Nat) (A0_0 : Option Addr) (c0_0 : Nat) (l0_0 : List (S36)) (P0_1_ : Nat → Prop) (A0_1 : Option Addr) (c0_1 : Nat) (l0_1 : List (S81)) (A0_2 : Option Addr) (c0_2 : Nat) (l0_2 : List Int) (A0_3 : Option Addr) (c0_3 : Nat) (l0_3 : List Bool) (A0_4 : Option Addr) (c0_4 : Nat) (l0_4 : List Int) (A0_5 : Option Addr) (c0_5 : Nat) (l0_5 : List Int) (a1 : Int) (a2 : Int) (r1 : List (S36)) (r2 : List (S81)) (r3 : List Int) (r4 : List Bool) (r5 : List Int) (r6 : List Int) (w : World) (hr0_0 : Kd.C k36 w A0_0 l0_0.length l0_0) (hc0_0 : l0_0.length ≤ c0_0) (hs0_1 : Kd.V k81 81 w w.heap.size (fun k_ => P0_1_ k_) (.slice A0_1 l0_1.length c0_1) l0_1) (hr0_2 : Kd.C (Kd.int .i64) w A0_2 l0_2.length l0_2) (hc0_2 : l0_2.length ≤ c0_2) (hr0_3 : Kd.C Kd.bool w A0_3 l0_3.length l0_3) (hc0_3 : l0_3.length ≤ c0_3) (hr0_4 : Kd.C (Kd.int .i64) w A0_4 l0_4.length l0_4) (hc0_4 : l0_4.length ≤ c0_4) (hr0_5 : Kd.C (Kd.int .i64) w A0_5 l0_5.length l0_5) (hc0_5 : l0_5.length ≤ c0_5) (h : r6FS_device.f k l0_0 l0_1 l0_2 l0_3 l0_4 l0_5 a1 a2 = some (r1, r2, r3, r4, r5, r6)) :
  Calls Try.prog 30 #[.agg #[.slice A0_0 l0_0.length c0_0, .slice A0_1 l0_1.length c0_1, .slice A0_2 l0_2.length c0_2, .slice A0_3 l0_3.length c0_3, .slice A0_4 l0_4.length c0_4, .slice A0_5 l0_5.length c0_5], .int .i64 a1, .int .i64 a2] w fun e w' => ∃ v0_ v1_ v2_ v3_ v4_ v5_ : Value, e = .returned (.agg #[v0_, v1_, v2_, v3_, v4_, v5_]) ∧ Kd.R k36 36 w' w.heap.size (fun k_ => (w.heap.size ≤ k_)) v0_ r1 ∧ Kd.V k81 81 w' w.heap.size (fun k_ => (P0_1_ k_ ∨ w.heap.size ≤ k_) ∧ some k_ ≠ (v0_ : Value).ownBlock ∧ some k_ ≠ (v2_ : Value).ownBlock ∧ some k_ ≠ (v3_ : Value).ownBlock ∧ some k_ ≠ (v4_ : Value).ownBlock) v1_ r2 ∧ Kd.R (Kd.int .i64) 3 w' w.heap.size (fun k_ => (w.heap.size ≤ k_) ∧ some k_ ≠ (v4_ : Value).ownBlock) v2_ r3 ∧ Kd.R Kd.bool 4 w' w.heap.size (fun k_ => (w.heap.size ≤ k_)) v3_ r4 ∧ Kd.R (Kd.int .i64) 3 w' w.heap.size (fun k_ => (w.heap.size ≤ k_) ∧ some k_ ≠ (v2_ : Value).ownBlock) v4_ r5 ∧ Kd.V (Kd.int .i64) 3 w' w.heap.size (fun k_ => (P0_1_ k_ ∨ w.heap.size ≤ k_) ∧ some k_ ≠ (v0_ : Value).ownBlock ∧ some k_ ≠ (v2_ : Value).ownBlock ∧ some k_ ≠ (v3_ : Value).ownBlock ∧ some k_ ≠ (v4_ : Value).ownBlock) v5_ r6 ∧ Below w.heap.size w w' := by
 have hu48 := Try.underlying48
 have hu36 := Try.underlying36
 have HR0_0 := z1_.mk hr0_0
 have HC0_0 := z1_.mk hc0_0
 clear hr0_0 hc0_0
 have HO0_1 := z1_.mk (show Kd.V k81 81 w w.heap.size (fun k_ => (P0_1_ k_ ∨ w.heap.size ≤ k_)) (.slice A0_1 l0_1.length c0_1) l0_1 from Kd.V_mono hs0_1 (fun k_ hk => .inl hk))
 have HR0_2 := z1_.mk hr0_2
 have HC0_2 := z1_.mk hc0_2
 clear hr0_2 hc0_2
 have HR0_3 := z1_.mk hr0_3
 have HC0_3 := z1_.mk hc0_3
 clear hr0_3 hc0_3
 have HR0_4 := z1_.mk hr0_4
 have HC0_4 := z1_.mk hc0_4
 clear hr0_4 hc0_4
 have HR0_5 := z1_.mk hr0_5
 have HC0_5 := z1_.mk hc0_5
 clear hr0_5 hc0_5
 have HB := z1_.mk (y6_ w.heap.size w)
 have H : ((some (([] : List Int) : List Int)).bind fun y155 => (if y155.length + l0_5.length < 17592186044416 then ((some (y155 ++ l0_5 : List Int)).bind fun y158 => ((some (([(l0_0.length : Int)] : List Int) : List Int)).bind fun y161 => (if y158.length + y161.length < 17592186044416 then ((some (y158 ++ y161 : List Int)).bind fun y164 => ((r6bits.f a1).bind fun t167 => ((r6FS_add.f k l0_0 l0_1 l0_2 l0_3 l0_4 y164 (y164.length : Int) 0 2 t167 0 0 4096 8 0 0 0 0 (⟨#[]⟩ : ByteArray) a2).bind fun bt168 => (some (bt168.1, bt168.2.1, bt168.2.2.1, bt168.2.2.2.1, bt168.2.2.2.2.1, bt168.2.2.2.2.2))))) else (none)))) else (none))) = some (r1, r2, r3, r4, r5, r6) := h
 clear h
 obtain ⟨y155, hy155⟩ : ∃ y_ : List Int, y_ = (([] : List Int)) := ⟨_, rfl⟩
 replace H : (if y155.length + l0_5.length < 17592186044416 then ((some (y155 ++ l0_5 : List Int)).bind fun y158 => ((some (([(l0_0.length : Int)] : List Int) : List Int)).bind fun y161 => (if y158.length + y161.length < 17592186044416 then ((some (y158 ++ y161 : List Int)).bind fun y164 => ((r6bits.f a1).bind fun t167 => ((r6FS_add.f k l0_0 l0_1 l0_2 l0_3 l0_4 y164 (y164.length : Int) 0 2 t167 0 0 4096 8 0 0 0 0 (⟨#[]⟩ : ByteArray) a2).bind fun bt168 => (some (bt168.1, bt168.2.1, bt168.2.2.1, bt168.2.2.2.1, bt168.2.2.2.2.1, bt168.2.2.2.2.2))))) else (none)))) else (none)) = some (r1, r2, r3, r4, r5, r6) := by first | (rw [hy155]; with_reducible exact H) | (have H2_ := (Option.bind_some _ _).symm.trans H; rw [hy155]; with_reducible exact H2_) | (have H2_ := (Option.bind_some _ _).symm.trans H; with_reducible exact H2_) | with_reducible exact H | (rw [hy155]; exact H) | exact H
 have Ny155 := z1_.mk hy155
 clear hy155
 by_cases c4 : y155.length + l0_5.length < 17592186044416
 ·rw [if_pos c4] at H
  have LMc4 := z1_.mk c4
  clear c4
  obtain ⟨y158, hy158⟩ : ∃ y_ : List Int, y_ = (y155 ++ l0_5) := ⟨_, rfl⟩
  replace H : ((some (([(l0_0.length : Int)] : List Int) : List Int)).bind fun y161 => (if y158.length + y161.length < 17592186044416 then ((some (y158 ++ y161 : List Int)).bind fun y164 => ((r6bits.f a1).bind fun t167 => ((r6FS_add.f k l0_0 l0_1 l0_2 l0_3 l0_4 y164 (y164.length : Int) 0 2 t167 0 0 4096 8 0 0 0 0 (⟨#[]⟩ : ByteArray) a2).bind fun bt168 => (some (bt168.1, bt168.2.1, bt168.2.2.1, bt168.2.2.2.1, bt168.2.2.2.2.1, bt168.2.2.2.2.2))))) else (none))) = some (r1, r2, r3, r4, r5, r6) := by first | (rw [hy158]; with_reducible exact H) | (have H2_ := (Option.bind_some _ _).symm.trans H; rw [hy158]; with_reducible exact H2_) | (have H2_ := (Option.bind_some _ _).symm.trans H; with_reducible exact H2_) | with_reducible exact H | (rw [hy158]; exact H) | exact H
  have Ny158 := z1_.mk hy158
  clear hy158
  obtain ⟨y161, hy161⟩ : ∃ y_ : List Int, y_ = (([(l0_0.length : Int)] : List Int)) := ⟨_, rfl⟩
  replace H : (if y158.length + y161.length < 17592186044416 then ((some (y158 ++ y161 : List Int)).bind fun y164 => ((r6bits.f a1).bind fun t167 => ((r6FS_add.f k l0_0 l0_1 l0_2 l0_3 l0_4 y164 (y164.length : Int) 0 2 t167 0 0 4096 8 0 0 0 0 (⟨#[]⟩ : ByteArray) a2).bind fun bt168 => (some (bt168.1, bt168.2.1, bt168.2.2.1, bt168.2.2.2.1, bt168.2.2.2.2.1, bt168.2.2.2.2.2))))) else (none)) = some (r1, r2, r3, r4, r5, r6) := by first | (rw [hy161]; with_reducible exact H) | (have H2_ := (Option.bind_some _ _).symm.trans H; rw [hy161]; with_reducible exact H2_) | (have H2_ := (Option.bind_some _ _).symm.trans H; with_reducible exact H2_) | with_reducible exact H | (rw [hy161]; exact H) | exact H
  have Ny161 := z1_.mk hy161
  clear hy161
  by_cases c5 : y158.length + y161.length < 17592186044416
  ·rw [if_pos c5] at H
   have LMc5 := z1_.mk c5
   clear c5
   obtain ⟨y164, hy164⟩ : ∃ y_ : List Int, y_ = (y158 ++ y161) := ⟨_, rfl⟩
   replace H : ((r6bits.f a1).bind fun t167 => ((r6FS_add.f k l0_0 l0_1 l0_2 l0_3 l0_4 y164 (y164.length : Int) 0 2 t167 0 0 4096 8 0 0 0 0 (⟨#[]⟩ : ByteArray) a2).bind fun bt168 => (some (bt168.1, bt168.2.1, bt168.2.2.1, bt168.2.2.2.1, bt168.2.2.2.2.1, bt168.2.2.2.2.2)))) = some (r1, r2, r3, r4, r5, r6) := by first | (rw [hy164]; with_reducible exact H) | (have H2_ := (Option.bind_some _ _).symm.trans H; rw [hy164]; with_reducible exact H2_) | (have H2_ := (Option.bind_some _ _).symm.trans H; with_reducible exact H2_) | with_reducible exact H | (rw [hy164]; exact H) | exact H
   have Ny164 := z1_.mk hy164
   clear hy164
   replace H := Option.bind_eq_some_iff.mp H
   obtain ⟨t167, A60, H⟩ := H
   replace H : ((r6FS_add.f k l0_0 l0_1 l0_2 l0_3 l0_4 y164 (y164.length : Int) 0 2 t167 0 0 4096 8 0 0 0 0 (⟨#[]⟩ : ByteArray) a2).bind fun bt168 => (some (bt168.1, bt168.2.1, bt168.2.2.1, bt168.2.2.2.1, bt168.2.2.2.2.1, bt168.2.2.2.2.2))) = some (r1, r2, r3, r4, r5, r6) := H
   have A6 := z1_.mk A60
   clear A60
   replace H := Option.bind_eq_some_iff.mp H
   obtain ⟨⟨t168, t171, t174, t177, t180, t183⟩, A70, H⟩ := H
   replace H : (some (t168, t171, t174, t177, t180, t183)) = some (r1, r2, r3, r4, r5, r6) := H
   have A7 := z1_.mk A70
   clear A70
   simp only [Option.some.injEq, Prod.mk.injEq] at H
   obtain ⟨rfl, rfl, rfl, rfl, rfl, rfl⟩ := H
   go_enter Try.func30, Try.ntmps30
   try go_wp2_with (first | ((with_reducible refine gate_dst (N := 3) rfl ?_); refine box_event ?hg (N := 3) ?hd (cs := #[.slice A0_0 l0_0.length c0_0, .slice A0_1 l0_1.length c0_1, .slice A0_2 l0_2.length c0_2, .slice A0_3 l0_3.length c0_3, .slice A0_4 l0_4.length c0_4, .slice A0_5 l0_5.length c0_5]) (t := 48) ?hr ?_; (case hd => rfl); (case hg => rfl); (case hr => first | (go_simp; done) | (go_simp; rfl)); intro gb153 hg w8 hbox hb; have n0_ := z1_.mk (Kd.V_below (Kd.V_elderB (by (with_reducible repeat (first | apply ya_ | apply yb_ | apply yc_)); exact HO0_1.out) gb153 (Nat.le_of_eq hg.symm)) hb); have n1_ := z1_.mk (z7_ (by repeat (first | (with_reducible first | exact HB.out | apply z9_ | apply z3_ | apply z6_) | exact HB.out)) hb); have n2_ := z1_.mk (hbox); have n3_ := z1_.mk ((by rw [hg]; exact (ze_ (by repeat (first | (with_reducible first | exact HB.out | apply z9_ | apply z3_ | apply z6_) | exact HB.out))) : w.heap.size ≤ gb153)); have n4_ := z1_.mk ((by rw [hg]; exact (ze_ (by repeat (first | (with_reducible first | exact HB.out | apply z9_ | apply z3_ | apply z6_) | exact HB.out))) : w.heap.size ≤ gb153)); clear HO0_1; clear HB; have HO0_1 := n0_; have HB := n1_; have BK153 := n2_; have GW153 := n3_; have GE153 := n4_; clear n0_ n1_ n2_ n3_ n4_; clear hb hbox hg) | ((with_reducible refine gate_dst (N := 6) rfl ?_); refine box_event ?hg (N := 6) ?hd (cs := #[.slice none 0 0, .slice none 0 0, .slice none 0 0, .slice none 0 0, .slice none 0 0, .slice none 0 0]) (t := 48) ?hr ?_; (case hd => rfl); (case hg => rfl); (case hr => first | (go_simp; done) | (go_simp; rfl)); intro gb154 hg w9 hbox hb; have n0_ := z1_.mk (Kd.V_below (Kd.V_elderB (by (with_reducible repeat (first | apply ya_ | apply yb_ | apply yc_)); exact HO0_1.out) gb154 (Nat.le_of_eq hg.symm)) hb); have n1_ := z1_.mk (zi_ (g := gb153) (o := .cells #[.slice A0_0 l0_0.length c0_0, .slice A0_1 l0_1.length c0_1, .slice A0_2 l0_2.length c0_2, .slice A0_3 l0_3.length c0_3, .slice A0_4 l0_4.length c0_4, .slice A0_5 l0_5.length c0_5] 48 (0, 0)) (by (with_reducible repeat (first | refine zb_ ?_ _ | refine zd_ ?_ | refine zc_ ?_ _)); exact BK153.out) hb); have n2_ := z1_.mk (z7_ (by repeat (first | (with_reducible first | exact HB.out | apply z9_ | apply z3_ | apply z6_ | refine z5_ ?_ GE153.out) | exact HB.out)) hb); have n3_ := z1_.mk (hbox); have n4_ := z1_.mk ((by rw [hg]; exact (ze_ (by repeat (first | (with_reducible first | exact HB.out | apply z9_ | apply z3_ | apply z6_ | refine z5_ ?_ GE153.out) | exact HB.out))) : w.heap.size ≤ gb154)); have n5_ := z1_.mk ((by rw [hg]; exact (ze_ (by repeat (first | (with_reducible first | exact HB.out | apply z9_ | apply z3_ | apply z6_ | refine z5_ ?_ GE153.out) | exact HB.out))) : w.heap.size ≤ gb154)); have n6_ := z1_.mk ((by rw [hg]; exact Nat.ne_of_lt (zj_ (g := gb153) (o := .cells #[.slice A0_0 l0_0.length c0_0, .slice A0_1 l0_1.length c0_1, .slice A0_2 l0_2.length c0_2, .slice A0_3 l0_3.length c0_3, .slice A0_4 l0_4.length c0_4, .slice A0_5 l0_5.length c0_5] 48 (0, 0)) (by (with_reducible repeat (first | refine zb_ ?_ _ | refine zd_ ?_ | refine zc_ ?_ _)); exact BK153.out)) : gb153 ≠ gb154)); have n7_ := z1_.mk ((by rw [hg]; exact Nat.ne_of_gt (zj_ (g := gb153) (o := .cells #[.slice A0_0 l0_0.length c0_0, .slice A0_1 l0_1.length c0_1, .slice A0_2 l0_2.length c0_2, .slice A0_3 l0_3.length c0_3, .slice A0_4 l0_4.length c0_4, .slice A0_5 l0_5.length c0_5] 48 (0, 0)) (by (with_reducible repeat (first | refine zb_ ?_ _ | refine zd_ ?_ | refine zc_ ?_ _)); exact BK153.out)) : gb154 ≠ gb153)); clear HO0_1; clear BK153; clear HB; have HO0_1 := n0_; have BK153 := n1_; have HB := n2_; have BK154 := n3_; have GW154 := n4_; have GE154 := n5_; have NB153_154 := n6_; have NB154_153 := n7_; clear n0_ n1_ n2_ n3_ n4_ n5_ n6_ n7_; clear hb hbox hg))
   have n0_ := z1_.mk (yc_ HO0_1.out)
   have n1_ := z1_.mk (zd_ BK153.out)
   have n2_ := z1_.mk (zd_ BK154.out)
   have n3_ := z1_.mk (z6_ HB.out)
   clear HO0_1
   clear BK153
   clear BK154
   clear HB
   have HO0_1 := n0_
   have BK153 := n1_
   have BK154 := n2_
   have HB := n3_
   clear n0_ n1_ n2_ n3_
   refine start_ (n := 11) (S := fun w' => w'.cell? ⟨gb153, 0, none⟩ = some (.slice A0_0 l0_0.length c0_0) ∧ w'.cell? ⟨gb153, 1, none⟩ = some (.slice A0_1 l0_1.length c0_1) ∧ w'.cell? ⟨gb153, 2, none⟩ = some (.slice A0_2 l0_2.length c0_2) ∧ w'.cell? ⟨gb153, 3, none⟩ = some (.slice A0_3 l0_3.length c0_3) ∧ w'.cell? ⟨gb153, 4, none⟩ = some (.slice A0_4 l0_4.length c0_4) ∧ w'.cell? ⟨gb153, 5, none⟩ = some (.slice A0_5 l0_5.length c0_5)) (ds := [10]) #[false, false, false, false, false, false, false, false, false, false, false] (by kernel_rfl) rfl rfl ⟨(z4_ BK153.out 0).trans rfl, (z4_ BK153.out 1).trans rfl, (z4_ BK153.out 2).trans rfl, (z4_ BK153.out 3).trans rfl, (z4_ BK153.out 4).trans rfl, (z4_ BK153.out 5).trans rfl⟩ (fun hHeld => ?_); refine with_tabW r6FS_device.tab1 r6FS_device.bits1 (fun HT_ HW_ => ?_)
   generalize w9.drew = w10 at HO0_1 BK153 BK154 HB hHeld ⊢
   refine zq_ (i := 1) (N := some 8) (v := ?_) (a' := ?_) #[false, true, false, false, false, false, false, false, false, false, false] rfl rfl (any_of HT_.out (by kernel_rfl)) (fun _ _ _ h => h) (Or.inl ⟨by rfl, ?_⟩) ?_ ?_
   rotate_left
   ·intro w'
    go_simp
    with_reducible rfl
   rotate_left
   ·simp only [Act.put, zz_, y0_, y1_, zg_, zf_]
    rfl
   refine zq_ (i := 4) (N := some 11) (v := ?_) (a' := ?_) #[false, true, false, false, true, false, false, false, false, false, false] rfl rfl (any_of HT_.out (by kernel_rfl)) (fun _ _ _ h => h) (Or.inl ⟨by rfl, ?_⟩) ?_ ?_
   rotate_left
   ·intro w'
    go_simp
    with_reducible rfl
   rotate_left
   ·simp only [Act.put, zz_, y0_, y1_, zg_, zf_]
    rfl
   refine take_ (i := 2) (N := some 9) (v := ?_) (a' := ?_) #[false, true, true, false, true, false, false, false, false, false, false] rfl rfl (take_ofW HT_.out HW_.out (by kernel_rfl)) (fun _ _ _ h => h) (Or.inl ⟨by rfl, ?_⟩) hHeld ?_ ?_
   rotate_left
   ·rintro w' ⟨s0, s1, s2, s3, s4, s5⟩
    go_simp
    with_reducible rfl
   rotate_left
   ·simp only [Act.put, zz_, y0_, y1_, zg_, zf_]
    rfl
   refine take_ (i := 5) (N := some 12) (v := ?_) (a' := ?_) #[false, true, true, false, true, true, false, false, false, false, false] rfl rfl (take_ofW HT_.out HW_.out (by kernel_rfl)) (fun _ _ _ h => h) (Or.inl ⟨by rfl, ?_⟩) hHeld ?_ ?_
   rotate_left
   ·rintro w' ⟨s0, s1, s2, s3, s4, s5⟩
    go_simp
    with_reducible rfl
   rotate_left
   ·simp only [Act.put, zz_, y0_, y1_, zg_, zf_]
    rfl
   refine zq_ (i := 6) (N := some 13) (v := ?_) (a' := ?_) #[false, true, true, false, true, true, true, false, false, false, false] rfl rfl (any_of HT_.out (by kernel_rfl)) (fun _ _ _ h => h) (Or.inl ⟨by rfl, ?_⟩) ?_ ?_
   rotate_left
   ·intro w'
    go_simp
    with_reducible rfl
   rotate_left
   ·simp only [Act.put, zz_, y0_, y1_, zg_, zf_]
    rfl
   refine join_ (σ := Value × Value × Value) 3 #[true, true, true, true, true, true, true, true, false, false, false] (fun s_ => [(7, s_.1), (10, s_.2.1), (14, s_.2.2)]) (fun s_ w' => (w'.cell? ⟨gb153, 0, none⟩ = some (.slice A0_0 l0_0.length c0_0) ∧ w'.cell? ⟨gb153, 1, none⟩ = some (.slice A0_1 l0_1.length c0_1) ∧ w'.cell? ⟨gb153, 2, none⟩ = some (.slice A0_2 l0_2.length c0_2) ∧ w'.cell? ⟨gb153, 3, none⟩ = some (.slice A0_3 l0_3.length c0_3) ∧ w'.cell? ⟨gb153, 4, none⟩ = some (.slice A0_4 l0_4.length c0_4) ∧ w'.cell? ⟨gb153, 5, none⟩ = some (.slice A0_5 l0_5.length c0_5)) ∧ (Kd.V k81 81 w' w.heap.size (fun k_ => (P0_1_ k_ ∨ w.heap.size ≤ k_) ∧ some k_ ≠ (s_.2.1 : Value).ownBlock ∧ some k_ ≠ (s_.2.2 : Value).ownBlock ∧ k_ ≠ gb153 ∧ k_ ≠ gb154) (.slice A0_1 l0_1.length c0_1) l0_1) ∧ (Kd.R (Kd.int .i64) 3 w' w.heap.size (fun k_ => (w.heap.size ≤ k_) ∧ some k_ ≠ (s_.2.2 : Value).ownBlock) s_.2.1 y158) ∧ (Kd.R (Kd.int .i64) 3 w' w.heap.size (fun k_ => (w.heap.size ≤ k_) ∧ some k_ ≠ (s_.2.1 : Value).ownBlock) s_.2.2 y161) ∧ (w'.heap[gb153]? = some (.cells #[.slice A0_0 l0_0.length c0_0, .slice A0_1 l0_1.length c0_1, .slice A0_2 l0_2.length c0_2, .slice A0_3 l0_3.length c0_3, .slice A0_4 l0_4.length c0_4, .slice A0_5 l0_5.length c0_5] 48 (0, 0))) ∧ (w'.heap[gb154]? = some (.cells #[.slice none 0 0, .slice none 0 0, .slice none 0 0, .slice none 0 0, .slice none 0 0, .slice none 0 0] 48 (0, 0))) ∧ (Below w.heap.size w w')) ?_ ?_
   rotate_left
   ·intro hCont
    refine two_ (i := 0) (j := 7) (Ni := some 7) (Nj := some 14) #[true, true, true, false, true, true, true, false, false, false, false] #[false, true, true, false, true, true, true, true, false, false, false] rfl rfl rfl rfl (two_of HT_.out (by kernel_rfl)) (by decide) (by decide) (fun K hK => ?_) (fun K hK => ?_)
    ·skip
     refine Kd.R_lit_step (Kd.int .i64) _ 3 ?hg (N := 7) ?hd (xs := ([] : List Int)) (inner := []) (ok := fun _ => True) (okp := fun _ => True) ?hr ?hp (fun _ hk => hk) trivial (y6_ _ _) (y2_ _) (by simp) ?_; (case hd => rfl); (case hg => rfl); (case hr => first | (go_simp; done) | (go_simp; rfl)); (case hp => exact (Reps.none _ _))
     intro v156 w11 ho12 hb hg_ hnew_
     clear hg_ hnew_
     (first | rw [← Ny155.out] at ho12 | (simp only [Int.reduceToNat] at ho12; rw [← Ny155.out] at ho12))
     have n0_ := z1_.mk (Kd.V_elder' (by (with_reducible repeat (first | apply ya_ | apply yb_ | apply yc_)); exact HO0_1.out) (Kd.R_base ho12) hb)
     have n1_ := z1_.mk (Kd.R_lower (Kd.R_newM (M := fun k_ => (w.heap.size ≤ k_)) ho12 (ze_ (by repeat (first | (with_reducible first | exact HB.out | apply z9_ | apply z3_ | apply z6_ | refine z5_ ?_ GE153.out | refine z5_ ?_ GE154.out) | exact HB.out))) (fun k_ h_ => h_)) (ze_ (by repeat (first | (with_reducible first | exact HB.out | apply z9_ | apply z3_ | apply z6_ | refine z5_ ?_ GE153.out | refine z5_ ?_ GE154.out) | exact HB.out))))
     have n2_ := z1_.mk (zi_ (g := gb153) (o := .cells #[.slice A0_0 l0_0.length c0_0, .slice A0_1 l0_1.length c0_1, .slice A0_2 l0_2.length c0_2, .slice A0_3 l0_3.length c0_3, .slice A0_4 l0_4.length c0_4, .slice A0_5 l0_5.length c0_5] 48 (0, 0)) (by (with_reducible repeat (first | refine zb_ ?_ _ | refine zd_ ?_ | refine zc_ ?_ _)); exact BK153.out) hb)
     have n3_ := z1_.mk (zi_ (g := gb154) (o := .cells #[.slice none 0 0, .slice none 0 0, .slice none 0 0, .slice none 0 0, .slice none 0 0, .slice none 0 0] 48 (0, 0)) (by (with_reducible repeat (first | refine zb_ ?_ _ | refine zd_ ?_ | refine zc_ ?_ _)); exact BK154.out) hb)
     have n4_ := z1_.mk (z7_ (by repeat (first | (with_reducible first | exact HB.out | apply z9_ | apply z3_ | apply z6_ | refine z5_ ?_ GE153.out | refine z5_ ?_ GE154.out) | exact HB.out)) hb)
     clear HO0_1
     clear BK153
     clear BK154
     clear HB
     have HO0_1 := n0_
     have HO157 := n1_
     have BK153 := n2_
     have BK154 := n3_
     have HB := n4_
     clear n0_ n1_ n2_ n3_ n4_
     clear hb ho12
     refine hK.out _ _ ⟨(z4_ BK153.out 0).trans rfl, (z4_ BK153.out 1).trans rfl, (z4_ BK153.out 2).trans rfl, (z4_ BK153.out 3).trans rfl, (z4_ BK153.out 4).trans rfl, (z4_ BK153.out 5).trans rfl⟩ (fun hHeld => ?_)
     clear hK K
     refine zv_ (a' := ?_) ?_ ?_
     rotate_left
     ·show Act.put _ (some 7) _ = _
      simp only [Act.put, zz_, y0_, y1_, zg_, zf_]
      rfl
     refine two_ (i := 3) (j := 7) (Ni := some 10) (Nj := some 14) #[true, true, true, true, true, true, true, false, false, false, false] #[true, true, true, false, true, true, true, true, false, false, false] rfl rfl rfl rfl (two_of HT_.out (by kernel_rfl)) (by decide) (by decide) (fun K hK => ?_) (fun K hK => ?_)
     ·skip
      refine Kd.R_append_rows_step (Kd.int .i64) (w0 := w) w.heap.size (by rfl) (.tmp 7) (.tmp 9) 45 3 (.int .i64 0) 8 rfl Try.underlying45 info3 rfl (by decide) (by omega) v156 y155 l0_5 _ _ _ (fun k_ => (w.heap.size ≤ k_)) (fun _ => False) rfl rfl ?aO ?aR (fun _ _ h => h) (fun _ h => h.elim) ?aF ?aB ?aS ?aL ?_
      (case aR => repeat (first | exact (Kd.C_below HR0_5.out HB.out) | (with_reducible refine Kd.C_alloc ?_ _) | (with_reducible refine Kd.C_drewN ?_ _) | (with_reducible refine Kd.C_drew ?_)))
      (case aB => exact (by repeat (first | (with_reducible first | exact HB.out | apply z9_ | apply z3_ | apply z6_ | refine z5_ ?_ GE153.out | refine z5_ ?_ GE154.out) | exact HB.out)))
      (case aF => exact (fun k_ hk => (Nat.le_trans (ze_ (by repeat (first | (with_reducible first | exact HB.out | apply z9_ | apply z3_ | apply z6_ | refine z5_ ?_ GE153.out | refine z5_ ?_ GE154.out) | exact HB.out))) hk)))
      (case aO => exact (by (with_reducible repeat (first | apply y7_ | apply y8_ | apply y9_)); exact Kd.R_mono HO157.out (fun _ hk => hk.1)))
      (case aS => exact (ze_ (by repeat (first | (with_reducible first | exact HB.out | apply z9_ | apply z3_ | apply z6_ | refine z5_ ?_ GE153.out | refine z5_ ?_ GE154.out) | exact HB.out))))
      (case aL => have := LMc4.out; omega)
      intro v159 w13 ho hb hg hat
      rw [← Ny158.out] at ho
      have n0_ := z1_.mk (Kd.V_afterv (ok := (fun k_ => (P0_1_ k_ ∨ w.heap.size ≤ k_) ∧ k_ ≠ gb153 ∧ k_ ≠ gb154)) (by (with_reducible repeat (first | apply ya_ | apply yb_ | apply yc_)); exact Kd.V_mono HO0_1.out (fun _ hk => ⟨⟨hk.1.1.1, ⟨hk.1.1.2, hk.1.2⟩⟩, hk.2⟩)) hg hat)
      have n1_ := z1_.mk (zm_ (g := gb153) (o := .cells #[.slice A0_0 l0_0.length c0_0, .slice A0_1 l0_1.length c0_1, .slice A0_2 l0_2.length c0_2, .slice A0_3 l0_3.length c0_3, .slice A0_4 l0_4.length c0_4, .slice A0_5 l0_5.length c0_5] 48 (0, 0)) (by (with_reducible repeat (first | refine zb_ ?_ _ | refine zd_ ?_ | refine zc_ ?_ _)); exact BK153.out) hg (Kd.R_ne HO157.out BK153.out (by decide)))
      have n2_ := z1_.mk (zm_ (g := gb154) (o := .cells #[.slice none 0 0, .slice none 0 0, .slice none 0 0, .slice none 0 0, .slice none 0 0, .slice none 0 0] 48 (0, 0)) (by (with_reducible repeat (first | refine zb_ ?_ _ | refine zd_ ?_ | refine zc_ ?_ _)); exact BK154.out) hg (Kd.R_ne HO157.out BK154.out (by decide)))
      have n3_ := z1_.mk (hb)
      have n4_ := z1_.mk (ho)
      clear HO0_1
      clear BK153
      clear BK154
      clear HB
      clear HO157
      have HO0_1 := n0_
      have BK153 := n1_
      have BK154 := n2_
      have HB := n3_
      have HO160 := n4_
      clear n0_ n1_ n2_ n3_ n4_
      clear ho hb hg hat
      refine hK.out _ _ ⟨(z4_ BK153.out 0).trans rfl, (z4_ BK153.out 1).trans rfl, (z4_ BK153.out 2).trans rfl, (z4_ BK153.out 3).trans rfl, (z4_ BK153.out 4).trans rfl, (z4_ BK153.out 5).trans rfl⟩ (fun hHeld => ?_)
      clear hK K
      refine zv_ (a' := ?_) ?_ ?_
      rotate_left
      ·show Act.put _ (some 10) _ = _
       simp only [Act.put, zz_, y0_, y1_, zg_, zf_]
       rfl
      refine one_ (i := 7) (N := some 14) #[true, true, true, true, true, true, true, true, false, false, false] rfl rfl (one_of HT_.out (by kernel_rfl)) (by decide) (fun K hK => ?_)
      refine Kd.R_lit_step (Kd.int .i64) _ 3 ?hg (N := 14) ?hd (xs := ([(l0_0.length : Int)] : List Int)) (inner := [.int .i64 (l0_0.length : Int)]) (ok := fun _ => True) (okp := fun _ => True) ?hr ?hp (fun _ hk => hk) trivial (y6_ _ _) (y2_ _) (by simp) ?_; (case hd => rfl); (case hg => rfl); (case hr => first | (go_simp; done) | (go_simp; rfl)); (case hp => exact (Reps.one (show Kd.M (Kd.int .i64) _ _ _ (l0_0.length : Int) [.int .i64 (l0_0.length : Int)] from rfl) (Reps.none _ _)))
      intro v162 w14 ho15 hb hg_ hnew_
      clear hg_ hnew_
      (first | rw [← Ny161.out] at ho15 | (simp only [Int.reduceToNat] at ho15; rw [← Ny161.out] at ho15))
      have n0_ := z1_.mk (Kd.V_elder' (by (with_reducible repeat (first | apply ya_ | apply yb_ | apply yc_)); exact HO0_1.out) (Kd.R_base ho15) hb)
      have n1_ := z1_.mk (Kd.R_elder' (by (with_reducible repeat (first | apply y7_ | apply y8_ | apply y9_)); exact HO160.out) (Kd.R_base ho15) hb)
      have n2_ := z1_.mk (Kd.R_lower (Kd.R_new' (Kd.R_newM (M := fun k_ => (w.heap.size ≤ k_)) ho15 (ze_ (by repeat (first | (with_reducible first | exact HB.out | apply z9_ | apply z3_ | apply z6_ | refine z5_ ?_ GE153.out | refine z5_ ?_ GE154.out) | exact HB.out))) (fun k_ h_ => h_)) (Kd.R_lt (by (with_reducible repeat (first | apply y7_ | apply y8_ | apply y9_)); exact HO160.out))) (ze_ (by repeat (first | (with_reducible first | exact HB.out | apply z9_ | apply z3_ | apply z6_ | refine z5_ ?_ GE153.out | refine z5_ ?_ GE154.out) | exact HB.out))))
      have n3_ := z1_.mk (zi_ (g := gb153) (o := .cells #[.slice A0_0 l0_0.length c0_0, .slice A0_1 l0_1.length c0_1, .slice A0_2 l0_2.length c0_2, .slice A0_3 l0_3.length c0_3, .slice A0_4 l0_4.length c0_4, .slice A0_5 l0_5.length c0_5] 48 (0, 0)) (by (with_reducible repeat (first | refine zb_ ?_ _ | refine zd_ ?_ | refine zc_ ?_ _)); exact BK153.out) hb)
      have n4_ := z1_.mk (zi_ (g := gb154) (o := .cells #[.slice none 0 0, .slice none 0 0, .slice none 0 0, .slice none 0 0, .slice none 0 0, .slice none 0 0] 48 (0, 0)) (by (with_reducible repeat (first | refine zb_ ?_ _ | refine zd_ ?_ | refine zc_ ?_ _)); exact BK154.out) hb)
      have n5_ := z1_.mk (z7_ (by repeat (first | (with_reducible first | exact HB.out | apply z9_ | apply z3_ | apply z6_ | refine z5_ ?_ GE153.out | refine z5_ ?_ GE154.out) | exact HB.out)) hb)
      clear HO0_1
      clear HO160
      clear BK153
      clear BK154
      clear HB
      have HO0_1 := n0_
      have HO160 := n1_
      have HO163 := n2_
      have BK153 := n3_
      have BK154 := n4_
      have HB := n5_
      clear n0_ n1_ n2_ n3_ n4_ n5_
      clear hb ho15
      refine hK.out _ _ ⟨(z4_ BK153.out 0).trans rfl, (z4_ BK153.out 1).trans rfl, (z4_ BK153.out 2).trans rfl, (z4_ BK153.out 3).trans rfl, (z4_ BK153.out 4).trans rfl, (z4_ BK153.out 5).trans rfl⟩ (fun hHeld => ?_)
      clear hK K
      refine zv_ (a' := ?_) ?_ ?_
      rotate_left
      ·show Act.put _ (some 14) _ = _
       simp only [Act.put, zz_, y0_, y1_, zg_, zf_]
       rfl
      exact zv_ (by simp only [putAll, Act.put, zz_, y0_, y1_]) (hCont (v156, v159, v162) _ ⟨hHeld, (by (with_reducible repeat (first | apply ya_ | apply yb_ | apply yc_)); exact Kd.V_mono HO0_1.out (fun _ hk => ⟨hk.1.1.1, ⟨hk.1.2, ⟨hk.2, ⟨hk.1.1.2.1, hk.1.1.2.2⟩⟩⟩⟩)), (by (with_reducible repeat (first | apply y7_ | apply y8_ | apply y9_)); exact HO160.out), (by (with_reducible repeat (first | apply y7_ | apply y8_ | apply y9_)); exact Kd.R_mono HO163.out (fun _ hk => ⟨hk.1.1, hk.2⟩)), (by (with_reducible repeat (first | refine zb_ ?_ _ | refine zd_ ?_ | refine zc_ ?_ _)); exact BK153.out), (by (with_reducible repeat (first | refine zb_ ?_ _ | refine zd_ ?_ | refine zc_ ?_ _)); exact BK154.out), (by repeat (first | (with_reducible first | exact HB.out | apply z9_ | apply z3_ | apply z6_ | refine z5_ ?_ GE153.out | refine z5_ ?_ GE154.out) | exact HB.out))⟩)
     ·skip
      refine Kd.R_lit_step (Kd.int .i64) _ 3 ?hg (N := 14) ?hd (xs := ([(l0_0.length : Int)] : List Int)) (inner := [.int .i64 (l0_0.length : Int)]) (ok := fun _ => True) (okp := fun _ => True) ?hr ?hp (fun _ hk => hk) trivial (y6_ _ _) (y2_ _) (by simp) ?_; (case hd => rfl); (case hg => rfl); (case hr => first | (go_simp; done) | (go_simp; rfl)); (case hp => exact (Reps.one (show Kd.M (Kd.int .i64) _ _ _ (l0_0.length : Int) [.int .i64 (l0_0.length : Int)] from rfl) (Reps.none _ _)))
      intro v162 w13 ho14 hb hg_ hnew_
      clear hg_ hnew_
      (first | rw [← Ny161.out] at ho14 | (simp only [Int.reduceToNat] at ho14; rw [← Ny161.out] at ho14))
      have n0_ := z1_.mk (Kd.V_elder' (by (with_reducible repeat (first | apply ya_ | apply yb_ | apply yc_)); exact HO0_1.out) (Kd.R_base ho14) hb)
      have n1_ := z1_.mk (Kd.R_elder' (by (with_reducible repeat (first | apply y7_ | apply y8_ | apply y9_)); exact HO157.out) (Kd.R_base ho14) hb)
      have n2_ := z1_.mk (Kd.R_lower (Kd.R_new' (Kd.R_newM (M := fun k_ => (w.heap.size ≤ k_)) ho14 (ze_ (by repeat (first | (with_reducible first | exact HB.out | apply z9_ | apply z3_ | apply z6_ | refine z5_ ?_ GE153.out | refine z5_ ?_ GE154.out) | exact HB.out))) (fun k_ h_ => h_)) (Kd.R_lt (by (with_reducible repeat (first | apply y7_ | apply y8_ | apply y9_)); exact HO157.out))) (ze_ (by repeat (first | (with_reducible first | exact HB.out | apply z9_ | apply z3_ | apply z6_ | refine z5_ ?_ GE153.out | refine z5_ ?_ GE154.out) | exact HB.out))))
      have n3_ := z1_.mk (zi_ (g := gb153) (o := .cells #[.slice A0_0 l0_0.length c0_0, .slice A0_1 l0_1.length c0_1, .slice A0_2 l0_2.length c0_2, .slice A0_3 l0_3.length c0_3, .slice A0_4 l0_4.length c0_4, .slice A0_5 l0_5.length c0_5] 48 (0, 0)) (by (with_reducible repeat (first | refine zb_ ?_ _ | refine zd_ ?_ | refine zc_ ?_ _)); exact BK153.out) hb)
      have n4_ := z1_.mk (zi_ (g := gb154) (o := .cells #[.slice none 0 0, .slice none 0 0, .slice none 0 0, .slice none 0 0, .slice none 0 0, .slice none 0 0] 48 (0, 0)) (by (with_reducible repeat (first | refine zb_ ?_ _ | refine zd_ ?_ | refine zc_ ?_ _)); exact BK154.out) hb)
      have n5_ := z1_.mk (z7_ (by repeat (first | (with_reducible first | exact HB.out | apply z9_ | apply z3_ | apply z6_ | refine z5_ ?_ GE153.out | refine z5_ ?_ GE154.out) | exact HB.out)) hb)
      clear HO0_1
      clear HO157
      clear BK153
      clear BK154
      clear HB
      have HO0_1 := n0_
      have HO157 := n1_
      have HO163 := n2_
      have BK153 := n3_
      have BK154 := n4_
      have HB := n5_
      clear n0_ n1_ n2_ n3_ n4_ n5_
      clear hb ho14
      refine hK.out _ _ ⟨(z4_ BK153.out 0).trans rfl, (z4_ BK153.out 1).trans rfl, (z4_ BK153.out 2).trans rfl, (z4_ BK153.out 3).trans rfl, (z4_ BK153.out 4).trans rfl, (z4_ BK153.out 5).trans rfl⟩ (fun hHeld => ?_)
      clear hK K
      refine zv_ (a' := ?_) ?_ ?_
      rotate_left
      ·show Act.put _ (some 14) _ = _
       simp only [Act.put, zz_, y0_, y1_, zg_, zf_]
       rfl
      refine one_ (i := 3) (N := some 10) #[true, true, true, true, true, true, true, true, false, false, false] rfl rfl (one_of HT_.out (by kernel_rfl)) (by decide) (fun K hK => ?_)
      refine Kd.R_append_rows_step (Kd.int .i64) (w0 := w) w.heap.size (by rfl) (.tmp 7) (.tmp 9) 45 3 (.int .i64 0) 8 rfl Try.underlying45 info3 rfl (by decide) (by omega) v156 y155 l0_5 _ _ _ (fun k_ => (w.heap.size ≤ k_) ∧ some k_ ≠ (v162 : Value).ownBlock) (fun _ => False) rfl rfl ?aO ?aR (fun _ _ h => h) (fun _ h => h.elim) ?aF ?aB ?aS ?aL ?_
      (case aR => repeat (first | exact (Kd.C_below HR0_5.out HB.out) | (with_reducible refine Kd.C_alloc ?_ _) | (with_reducible refine Kd.C_drewN ?_ _) | (with_reducible refine Kd.C_drew ?_)))
      (case aB => exact (by repeat (first | (with_reducible first | exact HB.out | apply z9_ | apply z3_ | apply z6_ | refine z5_ ?_ GE153.out | refine z5_ ?_ GE154.out) | exact HB.out)))
      (case aF => exact (fun k_ hk => ⟨(Nat.le_trans (ze_ (by repeat (first | (with_reducible first | exact HB.out | apply z9_ | apply z3_ | apply z6_ | refine z5_ ?_ GE153.out | refine z5_ ?_ GE154.out) | exact HB.out))) hk), Kd.fresh' (Kd.R_lt (by (with_reducible repeat (first | apply y7_ | apply y8_ | apply y9_)); exact HO163.out)) k_ hk⟩))
      (case aO => exact (by (with_reducible repeat (first | apply y7_ | apply y8_ | apply y9_)); exact Kd.R_mono HO157.out (fun _ hk => ⟨hk.1.1, hk.2⟩)))
      (case aS => exact (ze_ (by repeat (first | (with_reducible first | exact HB.out | apply z9_ | apply z3_ | apply z6_ | refine z5_ ?_ GE153.out | refine z5_ ?_ GE154.out) | exact HB.out))))
      (case aL => have := LMc4.out; omega)
      intro v159 w15 ho hb hg hat
      rw [← Ny158.out] at ho
      have n0_ := z1_.mk (Kd.V_afterv (ok := (fun k_ => (P0_1_ k_ ∨ w.heap.size ≤ k_) ∧ some k_ ≠ (v162 : Value).ownBlock ∧ k_ ≠ gb153 ∧ k_ ≠ gb154)) (by (with_reducible repeat (first | apply ya_ | apply yb_ | apply yc_)); exact Kd.V_mono HO0_1.out (fun _ hk => ⟨⟨hk.1.1.1.1, ⟨hk.2, ⟨hk.1.1.1.2, hk.1.1.2⟩⟩⟩, hk.1.2⟩)) hg hat)
      have n1_ := z1_.mk (zm_ (g := gb153) (o := .cells #[.slice A0_0 l0_0.length c0_0, .slice A0_1 l0_1.length c0_1, .slice A0_2 l0_2.length c0_2, .slice A0_3 l0_3.length c0_3, .slice A0_4 l0_4.length c0_4, .slice A0_5 l0_5.length c0_5] 48 (0, 0)) (by (with_reducible repeat (first | refine zb_ ?_ _ | refine zd_ ?_ | refine zc_ ?_ _)); exact BK153.out) hg (Kd.R_ne HO157.out BK153.out (by decide)))
      have n2_ := z1_.mk (zm_ (g := gb154) (o := .cells #[.slice none 0 0, .slice none 0 0, .slice none 0 0, .slice none 0 0, .slice none 0 0, .slice none 0 0] 48 (0, 0)) (by (with_reducible repeat (first | refine zb_ ?_ _ | refine zd_ ?_ | refine zc_ ?_ _)); exact BK154.out) hg (Kd.R_ne HO157.out BK154.out (by decide)))
      have n3_ := z1_.mk (Kd.R_after (ok := (fun k_ => (w.heap.size ≤ k_))) (by (with_reducible repeat (first | apply y7_ | apply y8_ | apply y9_)); exact Kd.R_mono HO163.out (fun _ hk => ⟨hk.1.1, hk.2⟩)) hg hat)
      have n4_ := z1_.mk (hb)
      have n5_ := z1_.mk (ho)
      clear HO0_1
      clear BK153
      clear BK154
      clear HO163
      clear HB
      clear HO157
      have HO0_1 := n0_
      have BK153 := n1_
      have BK154 := n2_
      have HO163 := n3_
      have HB := n4_
      have HO160 := n5_
      clear n0_ n1_ n2_ n3_ n4_ n5_
      clear ho hb hg hat
      refine hK.out _ _ ⟨(z4_ BK153.out 0).trans rfl, (z4_ BK153.out 1).trans rfl, (z4_ BK153.out 2).trans rfl, (z4_ BK153.out 3).trans rfl, (z4_ BK153.out 4).trans rfl, (z4_ BK153.out 5).trans rfl⟩ (fun hHeld => ?_)
      clear hK K
      refine zv_ (a' := ?_) ?_ ?_
      rotate_left
      ·show Act.put _ (some 10) _ = _
       simp only [Act.put, zz_, y0_, y1_, zg_, zf_]
       rfl
      exact zv_ (by simp only [putAll, Act.put, zz_, y0_, y1_]) (hCont (v156, v159, v162) _ ⟨hHeld, (by (with_reducible repeat (first | apply ya_ | apply yb_ | apply yc_)); exact Kd.V_mono HO0_1.out (fun _ hk => ⟨hk.1.1, ⟨hk.2, ⟨hk.1.2.1, ⟨hk.1.2.2.1, hk.1.2.2.2⟩⟩⟩⟩)), (by (with_reducible repeat (first | apply y7_ | apply y8_ | apply y9_)); exact HO160.out), (by (with_reducible repeat (first | apply y7_ | apply y8_ | apply y9_)); exact HO163.out), (by (with_reducible repeat (first | refine zb_ ?_ _ | refine zd_ ?_ | refine zc_ ?_ _)); exact BK153.out), (by (with_reducible repeat (first | refine zb_ ?_ _ | refine zd_ ?_ | refine zc_ ?_ _)); exact BK154.out), (by repeat (first | (with_reducible first | exact HB.out | apply z9_ | apply z3_ | apply z6_ | refine z5_ ?_ GE153.out | refine z5_ ?_ GE154.out) | exact HB.out))⟩)
    ·skip
     refine Kd.R_lit_step (Kd.int .i64) _ 3 ?hg (N := 14) ?hd (xs := ([(l0_0.length : Int)] : List Int)) (inner := [.int .i64 (l0_0.length : Int)]) (ok := fun _ => True) (okp := fun _ => True) ?hr ?hp (fun _ hk => hk) trivial (y6_ _ _) (y2_ _) (by simp) ?_; (case hd => rfl); (case hg => rfl); (case hr => first | (go_simp; done) | (go_simp; rfl)); (case hp => exact (Reps.one (show Kd.M (Kd.int .i64) _ _ _ (l0_0.length : Int) [.int .i64 (l0_0.length : Int)] from rfl) (Reps.none _ _)))
     intro v162 w11 ho12 hb hg_ hnew_
     clear hg_ hnew_
     (first | rw [← Ny161.out] at ho12 | (simp only [Int.reduceToNat] at ho12; rw [← Ny161.out] at ho12))
     have n0_ := z1_.mk (Kd.V_elder' (by (with_reducible repeat (first | apply ya_ | apply yb_ | apply yc_)); exact HO0_1.out) (Kd.R_base ho12) hb)
     have n1_ := z1_.mk (Kd.R_lower (Kd.R_newM (M := fun k_ => (w.heap.size ≤ k_)) ho12 (ze_ (by repeat (first | (with_reducible first | exact HB.out | apply z9_ | apply z3_ | apply z6_ | refine z5_ ?_ GE153.out | refine z5_ ?_ GE154.out) | exact HB.out))) (fun k_ h_ => h_)) (ze_ (by repeat (first | (with_reducible first | exact HB.out | apply z9_ | apply z3_ | apply z6_ | refine z5_ ?_ GE153.out | refine z5_ ?_ GE154.out) | exact HB.out))))
     have n2_ := z1_.mk (zi_ (g := gb153) (o := .cells #[.slice A0_0 l0_0.length c0_0, .slice A0_1 l0_1.length c0_1, .slice A0_2 l0_2.length c0_2, .slice A0_3 l0_3.length c0_3, .slice A0_4 l0_4.length c0_4, .slice A0_5 l0_5.length c0_5] 48 (0, 0)) (by (with_reducible repeat (first | refine zb_ ?_ _ | refine zd_ ?_ | refine zc_ ?_ _)); exact BK153.out) hb)
     have n3_ := z1_.mk (zi_ (g := gb154) (o := .cells #[.slice none 0 0, .slice none 0 0, .slice none 0 0, .slice none 0 0, .slice none 0 0, .slice none 0 0] 48 (0, 0)) (by (with_reducible repeat (first | refine zb_ ?_ _ | refine zd_ ?_ | refine zc_ ?_ _)); exact BK154.out) hb)
     have n4_ := z1_.mk (z7_ (by repeat (first | (with_reducible first | exact HB.out | apply z9_ | apply z3_ | apply z6_ | refine z5_ ?_ GE153.out | refine z5_ ?_ GE154.out) | exact HB.out)) hb)
     clear HO0_1
     clear BK153
     clear BK154
     clear HB
     have HO0_1 := n0_
     have HO163 := n1_
     have BK153 := n2_
     have BK154 := n3_
     have HB := n4_
     clear n0_ n1_ n2_ n3_ n4_
     clear hb ho12
     refine hK.out _ _ ⟨(z4_ BK153.out 0).trans rfl, (z4_ BK153.out 1).trans rfl, (z4_ BK153.out 2).trans rfl, (z4_ BK153.out 3).trans rfl, (z4_ BK153.out 4).trans rfl, (z4_ BK153.out 5).trans rfl⟩ (fun hHeld => ?_)
     clear hK K
     refine zv_ (a' := ?_) ?_ ?_
     rotate_left
     ·show Act.put _ (some 14) _ = _
      simp only [Act.put, zz_, y0_, y1_, zg_, zf_]
      rfl
     refine one_ (i := 0) (N := some 7) #[true, true, true, false, true, true, true, true, false, false, false] rfl rfl (one_of HT_.out (by kernel_rfl)) (by decide) (fun K hK => ?_)
     refine Kd.R_lit_step (Kd.int .i64) _ 3 ?hg (N := 7) ?hd (xs := ([] : List Int)) (inner := []) (ok := fun _ => True) (okp := fun _ => True) ?hr ?hp (fun _ hk => hk) trivial (y6_ _ _) (y2_ _) (by simp) ?_; (case hd => rfl); (case hg => rfl); (case hr => first | (go_simp; done) | (go_simp; rfl)); (case hp => exact (Reps.none _ _))
     intro v156 w13 ho14 hb hg_ hnew_
     clear hg_ hnew_
     (first | rw [← Ny155.out] at ho14 | (simp only [Int.reduceToNat] at ho14; rw [← Ny155.out] at ho14))
     have n0_ := z1_.mk (Kd.V_elder' (by (with_reducible repeat (first | apply ya_ | apply yb_ | apply yc_)); exact HO0_1.out) (Kd.R_base ho14) hb)
     have n1_ := z1_.mk (Kd.R_elder' (by (with_reducible repeat (first | apply y7_ | apply y8_ | apply y9_)); exact HO163.out) (Kd.R_base ho14) hb)
     have n2_ := z1_.mk (Kd.R_lower (Kd.R_new' (Kd.R_newM (M := fun k_ => (w.heap.size ≤ k_)) ho14 (ze_ (by repeat (first | (with_reducible first | exact HB.out | apply z9_ | apply z3_ | apply z6_ | refine z5_ ?_ GE153.out | refine z5_ ?_ GE154.out) | exact HB.out))) (fun k_ h_ => h_)) (Kd.R_lt (by (with_reducible repeat (first | apply y7_ | apply y8_ | apply y9_)); exact HO163.out))) (ze_ (by repeat (first | (with_reducible first | exact HB.out | apply z9_ | apply z3_ | apply z6_ | refine z5_ ?_ GE153.out | refine z5_ ?_ GE154.out) | exact HB.out))))
     have n3_ := z1_.mk (zi_ (g := gb153) (o := .cells #[.slice A0_0 l0_0.length c0_0, .slice A0_1 l0_1.length c0_1, .slice A0_2 l0_2.length c0_2, .slice A0_3 l0_3.length c0_3, .slice A0_4 l0_4.length c0_4, .slice A0_5 l0_5.length c0_5] 48 (0, 0)) (by (with_reducible repeat (first | refine zb_ ?_ _ | refine zd_ ?_ | refine zc_ ?_ _)); exact BK153.out) hb)
     have n4_ := z1_.mk (zi_ (g := gb154) (o := .cells #[.slice none 0 0, .slice none 0 0, .slice none 0 0, .slice none 0 0, .slice none 0 0, .slice none 0 0] 48 (0, 0)) (by (with_reducible repeat (first | refine zb_ ?_ _ | refine zd_ ?_ | refine zc_ ?_ _)); exact BK154.out) hb)
     have n5_ := z1_.mk (z7_ (by repeat (first | (with_reducible first | exact HB.out | apply z9_ | apply z3_ | apply z6_ | refine z5_ ?_ GE153.out | refine z5_ ?_ GE154.out) | exact HB.out)) hb)
     clear HO0_1
     clear HO163
     clear BK153
     clear BK154
     clear HB
     have HO0_1 := n0_
     have HO163 := n1_
     have HO157 := n2_
     have BK153 := n3_
     have BK154 := n4_
     have HB := n5_
     clear n0_ n1_ n2_ n3_ n4_ n5_
     clear hb ho14
     refine hK.out _ _ ⟨(z4_ BK153.out 0).trans rfl, (z4_ BK153.out 1).trans rfl, (z4_ BK153.out 2).trans rfl, (z4_ BK153.out 3).trans rfl, (z4_ BK153.out 4).trans rfl, (z4_ BK153.out 5).trans rfl⟩ (fun hHeld => ?_)
     clear hK K
     refine zv_ (a' := ?_) ?_ ?_
     rotate_left
     ·show Act.put _ (some 7) _ = _
      simp only [Act.put, zz_, y0_, y1_, zg_, zf_]
      rfl
     refine one_ (i := 3) (N := some 10) #[true, true, true, true, true, true, true, true, false, false, false] rfl rfl (one_of HT_.out (by kernel_rfl)) (by decide) (fun K hK => ?_)
     refine Kd.R_append_rows_step (Kd.int .i64) (w0 := w) w.heap.size (by rfl) (.tmp 7) (.tmp 9) 45 3 (.int .i64 0) 8 rfl Try.underlying45 info3 rfl (by decide) (by omega) v156 y155 l0_5 _ _ _ (fun k_ => (w.heap.size ≤ k_) ∧ some k_ ≠ (v162 : Value).ownBlock) (fun _ => False) rfl rfl ?aO ?aR (fun _ _ h => h) (fun _ h => h.elim) ?aF ?aB ?aS ?aL ?_
     (case aR => repeat (first | exact (Kd.C_below HR0_5.out HB.out) | (with_reducible refine Kd.C_alloc ?_ _) | (with_reducible refine Kd.C_drewN ?_ _) | (with_reducible refine Kd.C_drew ?_)))
     (case aB => exact (by repeat (first | (with_reducible first | exact HB.out | apply z9_ | apply z3_ | apply z6_ | refine z5_ ?_ GE153.out | refine z5_ ?_ GE154.out) | exact HB.out)))
     (case aF => exact (fun k_ hk => ⟨(Nat.le_trans (ze_ (by repeat (first | (with_reducible first | exact HB.out | apply z9_ | apply z3_ | apply z6_ | refine z5_ ?_ GE153.out | refine z5_ ?_ GE154.out) | exact HB.out))) hk), Kd.fresh' (Kd.R_lt (by (with_reducible repeat (first | apply y7_ | apply y8_ | apply y9_)); exact HO163.out)) k_ hk⟩))
     (case aO => exact (by (with_reducible repeat (first | apply y7_ | apply y8_ | apply y9_)); exact Kd.R_mono HO157.out (fun _ hk => ⟨hk.1.1, hk.2⟩)))
     (case aS => exact (ze_ (by repeat (first | (with_reducible first | exact HB.out | apply z9_ | apply z3_ | apply z6_ | refine z5_ ?_ GE153.out | refine z5_ ?_ GE154.out) | exact HB.out))))
     (case aL => have := LMc4.out; omega)
     intro v159 w15 ho hb hg hat
     rw [← Ny158.out] at ho
     have n0_ := z1_.mk (Kd.V_afterv (ok := (fun k_ => (P0_1_ k_ ∨ w.heap.size ≤ k_) ∧ some k_ ≠ (v162 : Value).ownBlock ∧ k_ ≠ gb153 ∧ k_ ≠ gb154)) (by (with_reducible repeat (first | apply ya_ | apply yb_ | apply yc_)); exact Kd.V_mono HO0_1.out (fun _ hk => ⟨⟨hk.1.1.1.1, ⟨hk.1.2, ⟨hk.1.1.1.2, hk.1.1.2⟩⟩⟩, hk.2⟩)) hg hat)
     have n1_ := z1_.mk (zm_ (g := gb153) (o := .cells #[.slice A0_0 l0_0.length c0_0, .slice A0_1 l0_1.length c0_1, .slice A0_2 l0_2.length c0_2, .slice A0_3 l0_3.length c0_3, .slice A0_4 l0_4.length c0_4, .slice A0_5 l0_5.length c0_5] 48 (0, 0)) (by (with_reducible repeat (first | refine zb_ ?_ _ | refine zd_ ?_ | refine zc_ ?_ _)); exact BK153.out) hg (Kd.R_ne HO157.out BK153.out (by decide)))
     have n2_ := z1_.mk (zm_ (g := gb154) (o := .cells #[.slice none 0 0, .slice none 0 0, .slice none 0 0, .slice none 0 0, .slice none 0 0, .slice none 0 0] 48 (0, 0)) (by (with_reducible repeat (first | refine zb_ ?_ _ | refine zd_ ?_ | refine zc_ ?_ _)); exact BK154.out) hg (Kd.R_ne HO157.out BK154.out (by decide)))
     have n3_ := z1_.mk (Kd.R_after (ok := (fun k_ => (w.heap.size ≤ k_))) (by (with_reducible repeat (first | apply y7_ | apply y8_ | apply y9_)); exact Kd.R_mono HO163.out (fun _ hk => ⟨hk.1.1, hk.2⟩)) hg hat)
     have n4_ := z1_.mk (hb)
     have n5_ := z1_.mk (ho)
     clear HO0_1
     clear BK153
     clear BK154
     clear HO163
     clear HB
     clear HO157
     have HO0_1 := n0_
     have BK153 := n1_
     have BK154 := n2_
     have HO163 := n3_
     have HB := n4_
     have HO160 := n5_
     clear n0_ n1_ n2_ n3_ n4_ n5_
     clear ho hb hg hat
     refine hK.out _ _ ⟨(z4_ BK153.out 0).trans rfl, (z4_ BK153.out 1).trans rfl, (z4_ BK153.out 2).trans rfl, (z4_ BK153.out 3).trans rfl, (z4_ BK153.out 4).trans rfl, (z4_ BK153.out 5).trans rfl⟩ (fun hHeld => ?_)
     clear hK K
     refine zv_ (a' := ?_) ?_ ?_
     rotate_left
     ·show Act.put _ (some 10) _ = _
      simp only [Act.put, zz_, y0_, y1_, zg_, zf_]
      rfl
     exact zv_ (by simp only [putAll, Act.put, zz_, y0_, y1_]) (hCont (v156, v159, v162) _ ⟨hHeld, (by (with_reducible repeat (first | apply ya_ | apply yb_ | apply yc_)); exact Kd.V_mono HO0_1.out (fun _ hk => ⟨hk.1.1, ⟨hk.2, ⟨hk.1.2.1, ⟨hk.1.2.2.1, hk.1.2.2.2⟩⟩⟩⟩)), (by (with_reducible repeat (first | apply y7_ | apply y8_ | apply y9_)); exact HO160.out), (by (with_reducible repeat (first | apply y7_ | apply y8_ | apply y9_)); exact HO163.out), (by (with_reducible repeat (first | refine zb_ ?_ _ | refine zd_ ?_ | refine zc_ ?_ _)); exact BK153.out), (by (with_reducible repeat (first | refine zb_ ?_ _ | refine zd_ ?_ | refine zc_ ?_ _)); exact BK154.out), (by repeat (first | (with_reducible first | exact HB.out | apply z9_ | apply z3_ | apply z6_ | refine z5_ ?_ GE153.out | refine z5_ ?_ GE154.out) | exact HB.out))⟩)
   rintro ⟨v156, v159, v162⟩ w16 ⟨hS_, h0_, h1_, h2_, h3_, h4_, h5_⟩
   have n0_ : z1_ (Kd.V k81 81 w16 w.heap.size (fun k_ => (P0_1_ k_ ∨ w.heap.size ≤ k_) ∧ some k_ ≠ (v159 : Value).ownBlock ∧ some k_ ≠ (v162 : Value).ownBlock ∧ k_ ≠ gb153 ∧ k_ ≠ gb154) (.slice A0_1 l0_1.length c0_1) l0_1) := ⟨h0_⟩
   have n1_ : z1_ (Kd.R (Kd.int .i64) 3 w16 w.heap.size (fun k_ => (w.heap.size ≤ k_) ∧ some k_ ≠ (v162 : Value).ownBlock) v159 y158) := ⟨h1_⟩
   have n2_ : z1_ (Kd.R (Kd.int .i64) 3 w16 w.heap.size (fun k_ => (w.heap.size ≤ k_) ∧ some k_ ≠ (v159 : Value).ownBlock) v162 y161) := ⟨h2_⟩
   have n3_ : z1_ (w16.heap[gb153]? = some (.cells #[.slice A0_0 l0_0.length c0_0, .slice A0_1 l0_1.length c0_1, .slice A0_2 l0_2.length c0_2, .slice A0_3 l0_3.length c0_3, .slice A0_4 l0_4.length c0_4, .slice A0_5 l0_5.length c0_5] 48 (0, 0))) := ⟨h3_⟩
   have n4_ : z1_ (w16.heap[gb154]? = some (.cells #[.slice none 0 0, .slice none 0 0, .slice none 0 0, .slice none 0 0, .slice none 0 0, .slice none 0 0] 48 (0, 0))) := ⟨h4_⟩
   have n5_ : z1_ (Below w.heap.size w w16) := ⟨h5_⟩
   clear HO0_1
   clear BK153
   clear BK154
   clear HB
   clear h0_ h1_ h2_ h3_ h4_ h5_
   have HO0_1 := n0_
   have HO160 := n1_
   have HO163 := n2_
   have BK153 := n3_
   have BK154 := n4_
   have HB := n5_
   clear n0_ n1_ n2_ n3_ n4_ n5_
   have hHeld : w16.cell? ⟨gb153, 0, none⟩ = some (.slice A0_0 l0_0.length c0_0) ∧ w16.cell? ⟨gb153, 1, none⟩ = some (.slice A0_1 l0_1.length c0_1) ∧ w16.cell? ⟨gb153, 2, none⟩ = some (.slice A0_2 l0_2.length c0_2) ∧ w16.cell? ⟨gb153, 3, none⟩ = some (.slice A0_3 l0_3.length c0_3) ∧ w16.cell? ⟨gb153, 4, none⟩ = some (.slice A0_4 l0_4.length c0_4) ∧ w16.cell? ⟨gb153, 5, none⟩ = some (.slice A0_5 l0_5.length c0_5) := hS_
   obtain ⟨Ao18, co18, eo18⟩ := Kd.R_slice HO163.out
   (first | subst eo18 | (injection eo18 with f1_ f2_ f3_; have f4_ := f1_.symm; have f5_ := f3_.symm; clear f1_ f2_ f3_; subst f4_; subst f5_))
   refine zv_ (a' := ?_) ?_ ?_
   rotate_left
   ·simp only [putAll, Act.put, zz_, y0_, y1_]
    rfl
   refine one_ (i := 8) (N := some 15) #[true, true, true, true, true, true, true, true, true, false, false] rfl rfl (one_of HT_.out (by kernel_rfl)) (by decide) (fun K hK => ?_)
   refine Kd.R_append_rows_step (Kd.int .i64) (w0 := w) w.heap.size (by rfl) (.tmp 10) (.tmp 14) 45 3 (.int .i64 0) 8 rfl Try.underlying45 info3 rfl (by decide) (by omega) v159 y158 y161 _ _ _ (fun k_ => (w.heap.size ≤ k_) ∧ some k_ ≠ (.slice Ao18 y161.length co18 : Value).ownBlock) (fun _ => False) rfl rfl ?aO ?aR (fun _ _ h => h) (fun _ h => h.elim) ?aF ?aB ?aS ?aL ?_
   (case aR => repeat (first | exact (Kd.R_reads' HO163.out).2.2 | (with_reducible refine Kd.C_alloc ?_ _) | (with_reducible refine Kd.C_drewN ?_ _) | (with_reducible refine Kd.C_drew ?_)))
   (case aB => exact (by repeat (first | (with_reducible first | exact HB.out | apply z9_ | apply z3_ | apply z6_ | refine z5_ ?_ GE153.out | refine z5_ ?_ GE154.out) | exact HB.out)))
   (case aF => exact (fun k_ hk => ⟨(Nat.le_trans (ze_ (by repeat (first | (with_reducible first | exact HB.out | apply z9_ | apply z3_ | apply z6_ | refine z5_ ?_ GE153.out | refine z5_ ?_ GE154.out) | exact HB.out))) hk), Kd.fresh' (Kd.R_lt (by (with_reducible repeat (first | apply y7_ | apply y8_ | apply y9_)); exact HO163.out)) k_ hk⟩))
   (case aO => exact (by (with_reducible repeat (first | apply y7_ | apply y8_ | apply y9_)); exact HO160.out))
   (case aS => exact (ze_ (by repeat (first | (with_reducible first | exact HB.out | apply z9_ | apply z3_ | apply z6_ | refine z5_ ?_ GE153.out | refine z5_ ?_ GE154.out) | exact HB.out))))
   (case aL => have := LMc5.out; omega)
   intro v165 w17 ho hb hg hat
   rw [← Ny164.out] at ho
   have n0_ := z1_.mk (Kd.V_afterv (ok := (fun k_ => (P0_1_ k_ ∨ w.heap.size ≤ k_) ∧ some k_ ≠ (.slice Ao18 y161.length co18 : Value).ownBlock ∧ k_ ≠ gb153 ∧ k_ ≠ gb154)) (by (with_reducible repeat (first | apply ya_ | apply yb_ | apply yc_)); exact Kd.V_mono HO0_1.out (fun _ hk => ⟨⟨hk.1, ⟨hk.2.2.1, ⟨hk.2.2.2.1, hk.2.2.2.2⟩⟩⟩, hk.2.1⟩)) hg hat)
   have n1_ := z1_.mk (zm_ (g := gb153) (o := .cells #[.slice A0_0 l0_0.length c0_0, .slice A0_1 l0_1.length c0_1, .slice A0_2 l0_2.length c0_2, .slice A0_3 l0_3.length c0_3, .slice A0_4 l0_4.length c0_4, .slice A0_5 l0_5.length c0_5] 48 (0, 0)) (by (with_reducible repeat (first | refine zb_ ?_ _ | refine zd_ ?_ | refine zc_ ?_ _)); exact BK153.out) hg (Kd.R_ne HO160.out BK153.out (by decide)))
   have n2_ := z1_.mk (zm_ (g := gb154) (o := .cells #[.slice none 0 0, .slice none 0 0, .slice none 0 0, .slice none 0 0, .slice none 0 0, .slice none 0 0] 48 (0, 0)) (by (with_reducible repeat (first | refine zb_ ?_ _ | refine zd_ ?_ | refine zc_ ?_ _)); exact BK154.out) hg (Kd.R_ne HO160.out BK154.out (by decide)))
   have n3_ := z1_.mk (Kd.R_after (ok := (fun k_ => (w.heap.size ≤ k_))) (by (with_reducible repeat (first | apply y7_ | apply y8_ | apply y9_)); exact HO163.out) hg hat)
   have n4_ := z1_.mk (hb)
   have n5_ := z1_.mk (ho)
   clear HO0_1
   clear BK153
   clear BK154
   clear HO163
   clear HB
   clear HO160
   have HO0_1 := n0_
   have BK153 := n1_
   have BK154 := n2_
   have HO163 := n3_
   have HB := n4_
   have HO166 := n5_
   clear n0_ n1_ n2_ n3_ n4_ n5_
   clear ho hb hg hat
   obtain ⟨Ao19, co19, eo19⟩ := Kd.R_slice HO166.out
   (first | subst eo19 | (injection eo19 with f1_ f2_ f3_; have f4_ := f1_.symm; have f5_ := f3_.symm; clear f1_ f2_ f3_; subst f4_; subst f5_))
   refine hK.out _ _ ⟨(z4_ BK153.out 0).trans rfl, (z4_ BK153.out 1).trans rfl, (z4_ BK153.out 2).trans rfl, (z4_ BK153.out 3).trans rfl, (z4_ BK153.out 4).trans rfl, (z4_ BK153.out 5).trans rfl⟩ (fun hHeld => ?_)
   clear hK K
   refine zv_ (a' := ?_) ?_ ?_
   rotate_left
   ·show Act.put _ (some 15) _ = _
    simp only [Act.put, zz_, y0_, y1_, zg_, zf_]
    rfl
   refine zq_ (i := 9) (N := some 16) (v := ?_) (a' := ?_) #[true, true, true, true, true, true, true, true, true, true, false] rfl rfl (any_of HT_.out (by kernel_rfl)) (fun _ _ _ h => h) (Or.inl ⟨by rfl, ?_⟩) ?_ ?_
   rotate_left
   ·intro w'
    go_simp
    with_reducible rfl
   rotate_left
   ·simp only [Act.put, zz_, y0_, y1_, zg_, zf_]
    rfl
   refine last_ (i := 10) (N := none) #[true, true, true, true, true, true, true, true, true, true, true] rfl rfl (one_of HT_.out (by kernel_rfl)) (by decide) (fun K hK => ?_)
   have hs20 : w17.cell? ⟨gb153, 5, none⟩ = some (.slice A0_5 l0_5.length c0_5) := (z4_ BK153.out 5).trans rfl
   have hfs20 := z0_ BK153.out 5; have hns20_1 := NB154_153.out
   have hms20_1 := NB153_154.out
   refine skip_ (w1 := ?_) (by rfl) rfl ?_ ?_
   rotate_left
   ·go_simp
    rfl
   refine hK.out _ _ ?_
   clear hK K
   refine done_ (done_of HT_.out (by kernel_rfl)) ?_
   try go_wp2
   have n0_ : z1_ (Kd.V k81 81 (w17.setCell ⟨gb153, 5, none⟩ (.slice Ao19 y164.length co19)) w.heap.size (fun k_ => (P0_1_ k_ ∨ w.heap.size ≤ k_) ∧ some k_ ≠ (.slice Ao18 y161.length co18 : Value).ownBlock ∧ some k_ ≠ (.slice Ao19 y164.length co19 : Value).ownBlock ∧ k_ ≠ gb153 ∧ k_ ≠ gb154) (.slice A0_1 l0_1.length c0_1) l0_1) := ⟨by (with_reducible repeat (first | apply ya_ | apply yb_ | apply yc_)); exact Kd.V_mono (Kd.V_far (p := ⟨gb153, 5, none⟩) (Kd.V_mono HO0_1.out (fun k_ hk => (⟨hk, hk.1.2.2.1⟩ : _ ∧ k_ ≠ gb153))) (fun _ hk => hk.2) (.slice Ao19 y164.length co19)) (fun _ hk => ⟨hk.1.1.1, ⟨hk.1.1.2.1, ⟨hk.1.2, ⟨hk.1.1.2.2.1, hk.1.1.2.2.2⟩⟩⟩⟩)⟩
   have n1_ : z1_ (Kd.R (Kd.int .i64) 3 (w17.setCell ⟨gb153, 5, none⟩ (.slice Ao19 y164.length co19)) w.heap.size (fun k_ => (w.heap.size ≤ k_) ∧ some k_ ≠ (.slice Ao19 y164.length co19 : Value).ownBlock) (.slice Ao18 y161.length co18) y161) := ⟨by (with_reducible repeat (first | apply y7_ | apply y8_ | apply y9_)); exact Kd.R_mono (Kd.R_far (p := ⟨gb153, 5, none⟩) (Kd.R_types HO163.out BK153.out (by decide)) (fun _ hk => hk.2) (.slice Ao19 y164.length co19)) (fun _ hk => ⟨hk.1.1, hk.1.2⟩)⟩
   have n2_ : z1_ (Kd.R (Kd.int .i64) 3 (w17.setCell ⟨gb153, 5, none⟩ (.slice Ao19 y164.length co19)) w.heap.size (fun k_ => (w.heap.size ≤ k_) ∧ some k_ ≠ (.slice Ao18 y161.length co18 : Value).ownBlock) (.slice Ao19 y164.length co19) y164) := ⟨by (with_reducible repeat (first | apply y7_ | apply y8_ | apply y9_)); exact Kd.R_mono (Kd.R_far (p := ⟨gb153, 5, none⟩) (Kd.R_types HO166.out BK153.out (by decide)) (fun _ hk => hk.2) (.slice Ao19 y164.length co19)) (fun _ hk => ⟨hk.1.1, hk.1.2⟩)⟩
   have n3_ : z1_ ((w17.setCell ⟨gb153, 5, none⟩ (.slice Ao19 y164.length co19)).heap[gb153]? = some (.cells #[.slice A0_0 l0_0.length c0_0, .slice A0_1 l0_1.length c0_1, .slice A0_2 l0_2.length c0_2, .slice A0_3 l0_3.length c0_3, .slice A0_4 l0_4.length c0_4, .slice Ao19 y164.length co19] 48 (0, 0))) := ⟨by (with_reducible repeat (first | refine zb_ ?_ _ | refine zd_ ?_ | refine zc_ ?_ _)); refine zw_ (cs := #[.slice A0_0 l0_0.length c0_0, .slice A0_1 l0_1.length c0_1, .slice A0_2 l0_2.length c0_2, .slice A0_3 l0_3.length c0_3, .slice A0_4 l0_4.length c0_4, .slice A0_5 l0_5.length c0_5]) ?_ 5 _ (by first | rfl | (simp; done)); (with_reducible repeat (first | refine zb_ ?_ _ | refine zd_ ?_ | refine zc_ ?_ _)); exact BK153.out⟩
   have n4_ : z1_ ((w17.setCell ⟨gb153, 5, none⟩ (.slice Ao19 y164.length co19)).heap[gb154]? = some (.cells #[.slice none 0 0, .slice none 0 0, .slice none 0 0, .slice none 0 0, .slice none 0 0, .slice none 0 0] 48 (0, 0))) := ⟨by (with_reducible repeat (first | refine zb_ ?_ _ | refine zd_ ?_ | refine zc_ ?_ _)); refine blk_far ?_ NB154_153.out _; (with_reducible repeat (first | refine zb_ ?_ _ | refine zd_ ?_ | refine zc_ ?_ _)); exact BK154.out⟩
   have n5_ : z1_ (Below w.heap.size w (w17.setCell ⟨gb153, 5, none⟩ (.slice Ao19 y164.length co19))) := ⟨by repeat (first | (with_reducible first | exact HB.out | apply z9_ | apply z3_ | apply z6_ | refine z5_ ?_ GE153.out | refine z5_ ?_ GE154.out) | exact HB.out)⟩
   (try clear HO0_1)
   (try clear HO163)
   (try clear HO166)
   (try clear BK153)
   (try clear BK154)
   (try clear HB)
   generalize (w17.setCell ⟨gb153, 5, none⟩ (.slice Ao19 y164.length co19)) = w21 at n0_ n1_ n2_ n3_ n4_ n5_ ⊢
   have HO0_1 := n0_
   have HO163 := n1_
   have HO166 := n2_
   have BK153 := n3_
   have BK154 := n4_
   have HB := n5_
   clear n0_ n1_ n2_ n3_ n4_ n5_
   have n0_ := z1_.mk (yc_ HO0_1.out)
   have n1_ := z1_.mk (y9_ HO163.out)
   have n2_ := z1_.mk (y9_ HO166.out)
   have n3_ := z1_.mk (zd_ BK153.out)
   have n4_ := z1_.mk (zd_ BK154.out)
   have n5_ := z1_.mk (z6_ HB.out)
   clear HO0_1
   clear HO163
   clear HO166
   clear BK153
   clear BK154
   clear HB
   have HO0_1 := n0_
   have HO163 := n1_
   have HO166 := n2_
   have BK153 := n3_
   have BK154 := n4_
   have HB := n5_
   clear n0_ n1_ n2_ n3_ n4_ n5_
   refine start_ (n := 10) (S := fun w' => w'.cell? ⟨gb153, 0, none⟩ = some (.slice A0_0 l0_0.length c0_0) ∧ w'.cell? ⟨gb153, 1, none⟩ = some (.slice A0_1 l0_1.length c0_1) ∧ w'.cell? ⟨gb153, 2, none⟩ = some (.slice A0_2 l0_2.length c0_2) ∧ w'.cell? ⟨gb153, 3, none⟩ = some (.slice A0_3 l0_3.length c0_3) ∧ w'.cell? ⟨gb153, 4, none⟩ = some (.slice A0_4 l0_4.length c0_4) ∧ w'.cell? ⟨gb153, 5, none⟩ = some (.slice Ao19 y164.length co19)) (ds := []) #[false, false, false, false, false, false, false, false, false, false] (by kernel_rfl) rfl rfl ⟨(z4_ BK153.out 0).trans rfl, (z4_ BK153.out 1).trans rfl, (z4_ BK153.out 2).trans rfl, (z4_ BK153.out 3).trans rfl, (z4_ BK153.out 4).trans rfl, (z4_ BK153.out 5).trans rfl⟩ (fun hHeld => ?_); refine with_tabW r6FS_device.tab2 r6FS_device.bits2 (fun HT_ HW_ => ?_)
   generalize w21.drew = w22 at HO0_1 HO163 HO166 BK153 BK154 HB hHeld ⊢
   refine zq_ (i := 1) (N := some 18) (v := ?_) (a' := ?_) #[false, true, false, false, false, false, false, false, false, false] rfl rfl (any_of HT_.out (by kernel_rfl)) (fun _ _ _ h => h) (Or.inl ⟨by rfl, ?_⟩) ?_ ?_
   rotate_left
   ·intro w'
    go_simp
    with_reducible rfl
   rotate_left
   ·simp only [Act.put, zz_, y0_, y1_, zg_, zf_]
    rfl
   refine zq_ (i := 4) (N := some 21) (v := ?_) (a' := ?_) #[false, true, false, false, true, false, false, false, false, false] rfl rfl (any_of HT_.out (by kernel_rfl)) (fun _ _ _ h => h) (Or.inl ⟨by rfl, ?_⟩) ?_ ?_
   rotate_left
   ·intro w'
    go_simp
    with_reducible rfl
   rotate_left
   ·simp only [Act.put, zz_, y0_, y1_, zg_, zf_]
    rfl
   refine zq_ (i := 7) (N := some 24) (v := ?_) (a' := ?_) #[false, true, false, false, true, false, false, true, false, false] rfl rfl (any_of HT_.out (by kernel_rfl)) (fun _ _ _ h => h) (Or.inl ⟨by rfl, ?_⟩) ?_ ?_
   rotate_left
   ·intro w'
    go_simp
    with_reducible rfl
   rotate_left
   ·simp only [Act.put, zz_, y0_, y1_, zg_, zf_]
    rfl
   refine take_ (i := 0) (N := some 17) (v := ?_) (a' := ?_) #[true, true, false, false, true, false, false, true, false, false] rfl rfl (take_ofW HT_.out HW_.out (by kernel_rfl)) (fun _ _ _ h => h) (Or.inl ⟨by rfl, ?_⟩) hHeld ?_ ?_
   rotate_left
   ·rintro w' ⟨s0, s1, s2, s3, s4, s5⟩
    go_simp
    with_reducible rfl
   rotate_left
   ·simp only [Act.put, zz_, y0_, y1_, zg_, zf_]
    rfl
   refine take_ (i := 2) (N := some 19) (v := ?_) (a' := ?_) #[true, true, true, false, true, false, false, true, false, false] rfl rfl (take_ofW HT_.out HW_.out (by kernel_rfl)) (fun _ _ _ h => h) (Or.inl ⟨by rfl, ?_⟩) hHeld ?_ ?_
   rotate_left
   ·rintro w' ⟨s0, s1, s2, s3, s4, s5⟩
    go_simp
    with_reducible rfl
   rotate_left
   ·simp only [Act.put, zz_, y0_, y1_, zg_, zf_]
    rfl
   refine zq_ (i := 3) (N := some 20) (v := ?_) (a' := ?_) #[true, true, true, true, true, false, false, true, false, false] rfl rfl (any_of HT_.out (by kernel_rfl)) (fun _ _ _ h => h) (Or.inl ⟨by rfl, ?_⟩) ?_ ?_
   rotate_left
   ·intro w'
    go_simp
    with_reducible rfl
   rotate_left
   ·simp only [Act.put, zz_, y0_, y1_, zg_, zf_]
    rfl
   refine one_ (i := 5) (N := some 22) #[true, true, true, true, true, true, false, true, false, false] rfl rfl (one_of HT_.out (by kernel_rfl)) (by decide) (fun K hK => ?_)
   refine goes_ Try.func33 (by kernel_rfl) rfl #[.int .i64 a1] (by rfl) rfl rfl (by (try simp only [List.map_toArray, List.map_cons, List.map_nil]); first | done | rfl | (simp only [List.length_drop, List.length_take]; rfl)) ?_
   with_reducible refine (r6bits.calls a1 t167 _ A6.out).mono ?_
   rintro e w' ⟨rfl, ⟨nd, rfl⟩⟩
   refine ⟨_, rfl, ?_⟩
   refine hK.out _ _ ⟨(z4_ BK153.out 0).trans rfl, (z4_ BK153.out 1).trans rfl, (z4_ BK153.out 2).trans rfl, (z4_ BK153.out 3).trans rfl, (z4_ BK153.out 4).trans rfl, (z4_ BK153.out 5).trans rfl⟩ (fun hHeld => ?_)
   clear hK K
   refine zv_ (a' := ?_) ?_ ?_
   rotate_left
   ·show Act.put _ (some 22) _ = _
    simp only [Act.put, zz_, y0_, y1_, zg_, zf_]
    rfl
   refine zq_ (i := 6) (N := some 23) (v := ?_) (a' := ?_) #[true, true, true, true, true, true, true, true, false, false] rfl rfl (any_of HT_.out (by kernel_rfl)) (fun _ _ _ h => h) (Or.inl ⟨by rfl, ?_⟩) ?_ ?_
   rotate_left
   ·intro w'
    go_simp
    with_reducible rfl
   rotate_left
   ·simp only [Act.put, zz_, y0_, y1_, zg_, zf_]
    rfl
   refine one_ (i := 8) (N := some 25) #[true, true, true, true, true, true, true, true, true, false] rfl rfl (one_of HT_.out (by kernel_rfl)) (by decide) (fun K hK => ?_)
   refine goes_ Try.func32 (by kernel_rfl) rfl #[.agg #[.slice A0_0 l0_0.length c0_0, .slice A0_1 l0_1.length c0_1, .slice A0_2 l0_2.length c0_2, .slice A0_3 l0_3.length c0_3, .slice A0_4 l0_4.length c0_4, .slice Ao19 y164.length co19], .agg #[.int .i64 (y164.length : Int), .int .i64 0, .int .i64 2, .int .i64 t167, .int .i64 0, .int .i64 0, .int .i64 4096, .int .i64 8, .int .i64 0, .int .i64 0, .int .i64 0, .int .i64 0, .string (⟨#[]⟩ : ByteArray)], .int .i64 a2] (by rfl) rfl rfl (by (try simp only [List.map_toArray, List.map_cons, List.map_nil]); first | done | rfl | (simp only [List.length_drop, List.length_take]; rfl)) ?_
   with_reducible refine (r6FS_add.calls k _ _ l0_0 (fun k_ => ((P0_1_ k_ ∨ w.heap.size ≤ k_) ∧ (some k_ ≠ (.slice Ao18 y161.length co18 : Value).ownBlock ∧ (some k_ ≠ (.slice Ao19 y164.length co19 : Value).ownBlock ∧ (k_ ≠ gb153 ∧ k_ ≠ gb154))))) _ _ l0_1 _ _ l0_2 _ _ l0_3 _ _ l0_4 (fun k_ => some k_ = (.slice Ao19 y164.length co19 : Value).ownBlock) _ _ y164 (y164.length : Int) 0 2 t167 0 0 4096 8 0 0 0 0 (⟨#[]⟩ : ByteArray) a2 t168 t171 t174 t177 t180 t183 _ ?side1 ?side2 ?side3 ?side4 ?side5 ?side6 ?side7 ?side8 ?side9 ?side10 A7.out).mono ?_
   (case side1 => repeat (first | exact (Kd.C_below HR0_0.out (by repeat (first | (with_reducible first | exact HB.out | apply z9_ | apply z3_ | apply z6_ | refine z5_ ?_ GE153.out | refine z5_ ?_ GE154.out) | exact HB.out))) | (with_reducible refine Kd.C_alloc ?_ _) | (with_reducible refine Kd.C_drewN ?_ _) | (with_reducible refine Kd.C_drew ?_)))
   (case side2 => exact HC0_0.out)
   (case side3 => exact HO0_1.out)
   (case side4 => repeat (first | exact (Kd.C_below HR0_2.out (by repeat (first | (with_reducible first | exact HB.out | apply z9_ | apply z3_ | apply z6_ | refine z5_ ?_ GE153.out | refine z5_ ?_ GE154.out) | exact HB.out))) | (with_reducible refine Kd.C_alloc ?_ _) | (with_reducible refine Kd.C_drewN ?_ _) | (with_reducible refine Kd.C_drew ?_)))
   (case side5 => exact HC0_2.out)
   (case side6 => repeat (first | exact (Kd.C_below HR0_3.out (by repeat (first | (with_reducible first | exact HB.out | apply z9_ | apply z3_ | apply z6_ | refine z5_ ?_ GE153.out | refine z5_ ?_ GE154.out) | exact HB.out))) | (with_reducible refine Kd.C_alloc ?_ _) | (with_reducible refine Kd.C_drewN ?_ _) | (with_reducible refine Kd.C_drew ?_)))
   (case side7 => exact HC0_3.out)
   (case side8 => repeat (first | exact (Kd.C_below HR0_4.out (by repeat (first | (with_reducible first | exact HB.out | apply z9_ | apply z3_ | apply z6_ | refine z5_ ?_ GE153.out | refine z5_ ?_ GE154.out) | exact HB.out))) | (with_reducible refine Kd.C_alloc ?_ _) | (with_reducible refine Kd.C_drewN ?_ _) | (with_reducible refine Kd.C_drew ?_)))
   (case side9 => exact HC0_4.out)
   (case side10 => exact Kd.R_V (Kd.R_tight rfl (Kd.R_types (Kd.R_types (HO166.out) BK153.out (by decide)) BK154.out (by decide))))
   rintro e w23 ⟨v169, v172, v175, v178, v181, v184, rfl, ho0, ho1, ho2, ho3, ho4, ho5, hb⟩
   refine ⟨_, rfl, ?_⟩
   have n0_ := z1_.mk (Kd.V_mono (Kd.V_told (Kd.V_told (Kd.V_told (Kd.V_told (Kd.V_old (by (with_reducible repeat (first | apply ya_ | apply yb_ | apply yc_)); exact HO0_1.out) hb) (Kd.R_base ho0)) (Kd.R_base ho2)) (Kd.R_base ho3)) (Kd.R_base ho4)) (fun _ h_ => h_.1))
   have n1_ := z1_.mk (Kd.R_mono (Kd.R_told (Kd.R_told (Kd.R_old (by (with_reducible repeat (first | apply y7_ | apply y8_ | apply y9_)); exact HO163.out) hb) (Kd.R_base ho2)) (Kd.R_base ho4)) (fun _ h_ => h_.1))
   have n2_ := z1_.mk (Kd.R_mono (Kd.R_told (Kd.R_told (Kd.R_old (by (with_reducible repeat (first | apply y7_ | apply y8_ | apply y9_)); exact HO166.out) hb) (Kd.R_base ho2)) (Kd.R_base ho4)) (fun _ h_ => h_.1))
   have n3_ := z1_.mk (Kd.R_lower (Kd.R_newM (M := fun k_ => (w.heap.size ≤ k_)) (Kd.R_mono (ok' := fun k_ => True) ho0 (fun _ hk_ => trivial)) (ze_ (by repeat (first | (with_reducible first | exact HB.out | apply z9_ | apply z3_ | apply z6_ | refine z5_ ?_ GE153.out | refine z5_ ?_ GE154.out) | exact HB.out))) (fun k_ h_ => h_)) (ze_ (by repeat (first | (with_reducible first | exact HB.out | apply z9_ | apply z3_ | apply z6_ | refine z5_ ?_ GE153.out | refine z5_ ?_ GE154.out) | exact HB.out))))
   have n4_ := z1_.mk (Kd.V_lower (Kd.V_mono (ok' := fun k_ => (P0_1_ k_ ∨ w.heap.size ≤ k_) ∧ some k_ ≠ (v169 : Value).ownBlock ∧ some k_ ≠ (v175 : Value).ownBlock ∧ some k_ ≠ (v178 : Value).ownBlock ∧ some k_ ≠ (v181 : Value).ownBlock ∧ some k_ ≠ (.slice Ao18 y161.length co18 : Value).ownBlock ∧ k_ ≠ gb153 ∧ k_ ≠ gb154) ho1 (fun k_ hk_ => ⟨Or.elim hk_.1 (fun hs_ => Or.elim hs_ (fun hs_ => hs_.1) (fun hs_ => (.inr (((Kd.R_types (Kd.R_types (HO166.out) BK153.out (by decide)) BK154.out (by decide)).1 k_ hs_.symm).1.1.1)))) (fun hn_ => (.inr (Nat.le_trans (ze_ (by repeat (first | (with_reducible first | exact HB.out | apply z9_ | apply z3_ | apply z6_ | refine z5_ ?_ GE153.out | refine z5_ ?_ GE154.out) | exact HB.out))) hn_))), hk_.2.1, hk_.2.2.1, hk_.2.2.2.1, hk_.2.2.2.2, Or.elim hk_.1 (fun hs_ => Or.elim hs_ (fun hs_ => hs_.2.1) (fun hs_ => ((Kd.R_types (Kd.R_types (HO166.out) BK153.out (by decide)) BK154.out (by decide)).1 k_ hs_.symm).1.1.2)) (fun hn_ => (Kd.fresh' (Kd.R_lt (by (with_reducible repeat (first | apply y7_ | apply y8_ | apply y9_)); exact HO163.out)) k_ hn_)), Or.elim hk_.1 (fun hs_ => Or.elim hs_ (fun hs_ => hs_.2.2.2.1) (fun hs_ => ((Kd.R_types (Kd.R_types (HO166.out) BK153.out (by decide)) BK154.out (by decide)).1 k_ hs_.symm).1.2)) (fun hn_ => (Kd.freshB (g := gb153) (o := .cells #[.slice A0_0 l0_0.length c0_0, .slice A0_1 l0_1.length c0_1, .slice A0_2 l0_2.length c0_2, .slice A0_3 l0_3.length c0_3, .slice A0_4 l0_4.length c0_4, .slice Ao19 y164.length co19] 48 (0, 0)) (by (with_reducible repeat (first | refine zb_ ?_ _ | refine zd_ ?_ | refine zc_ ?_ _)); exact BK153.out) k_ hn_)), Or.elim hk_.1 (fun hs_ => Or.elim hs_ (fun hs_ => hs_.2.2.2.2) (fun hs_ => ((Kd.R_types (Kd.R_types (HO166.out) BK153.out (by decide)) BK154.out (by decide)).1 k_ hs_.symm).2)) (fun hn_ => (Kd.freshB (g := gb154) (o := .cells #[.slice none 0 0, .slice none 0 0, .slice none 0 0, .slice none 0 0, .slice none 0 0, .slice none 0 0] 48 (0, 0)) (by (with_reducible repeat (first | refine zb_ ?_ _ | refine zd_ ?_ | refine zc_ ?_ _)); exact BK154.out) k_ hn_))⟩)) (ze_ (by repeat (first | (with_reducible first | exact HB.out | apply z9_ | apply z3_ | apply z6_ | refine z5_ ?_ GE153.out | refine z5_ ?_ GE154.out) | exact HB.out))))
   have n5_ := z1_.mk (Kd.R_lower (Kd.R_new' (Kd.R_new' (Kd.R_newM (M := fun k_ => (w.heap.size ≤ k_)) (Kd.R_mono (ok' := fun k_ => some k_ ≠ (v181 : Value).ownBlock) ho2 (fun _ hk_ => hk_.2)) (ze_ (by repeat (first | (with_reducible first | exact HB.out | apply z9_ | apply z3_ | apply z6_ | refine z5_ ?_ GE153.out | refine z5_ ?_ GE154.out) | exact HB.out))) (fun k_ h_ => h_)) (Kd.R_lt (by (with_reducible repeat (first | apply y7_ | apply y8_ | apply y9_)); exact HO163.out))) (Kd.R_lt (by (with_reducible repeat (first | apply y7_ | apply y8_ | apply y9_)); exact HO166.out))) (ze_ (by repeat (first | (with_reducible first | exact HB.out | apply z9_ | apply z3_ | apply z6_ | refine z5_ ?_ GE153.out | refine z5_ ?_ GE154.out) | exact HB.out))))
   have n6_ := z1_.mk (Kd.R_lower (Kd.R_newM (M := fun k_ => (w.heap.size ≤ k_)) (Kd.R_mono (ok' := fun k_ => True) ho3 (fun _ hk_ => trivial)) (ze_ (by repeat (first | (with_reducible first | exact HB.out | apply z9_ | apply z3_ | apply z6_ | refine z5_ ?_ GE153.out | refine z5_ ?_ GE154.out) | exact HB.out))) (fun k_ h_ => h_)) (ze_ (by repeat (first | (with_reducible first | exact HB.out | apply z9_ | apply z3_ | apply z6_ | refine z5_ ?_ GE153.out | refine z5_ ?_ GE154.out) | exact HB.out))))
   have n7_ := z1_.mk (Kd.R_lower (Kd.R_new' (Kd.R_new' (Kd.R_newM (M := fun k_ => (w.heap.size ≤ k_)) (Kd.R_mono (ok' := fun k_ => some k_ ≠ (v175 : Value).ownBlock) ho4 (fun _ hk_ => hk_.2)) (ze_ (by repeat (first | (with_reducible first | exact HB.out | apply z9_ | apply z3_ | apply z6_ | refine z5_ ?_ GE153.out | refine z5_ ?_ GE154.out) | exact HB.out))) (fun k_ h_ => h_)) (Kd.R_lt (by (with_reducible repeat (first | apply y7_ | apply y8_ | apply y9_)); exact HO163.out))) (Kd.R_lt (by (with_reducible repeat (first | apply y7_ | apply y8_ | apply y9_)); exact HO166.out))) (ze_ (by repeat (first | (with_reducible first | exact HB.out | apply z9_ | apply z3_ | apply z6_ | refine z5_ ?_ GE153.out | refine z5_ ?_ GE154.out) | exact HB.out))))
   have n8_ := z1_.mk (Kd.V_lower (Kd.V_mono (ok' := fun k_ => (P0_1_ k_ ∨ w.heap.size ≤ k_) ∧ some k_ ≠ (v169 : Value).ownBlock ∧ some k_ ≠ (v175 : Value).ownBlock ∧ some k_ ≠ (v178 : Value).ownBlock ∧ some k_ ≠ (v181 : Value).ownBlock ∧ some k_ ≠ (.slice Ao18 y161.length co18 : Value).ownBlock ∧ k_ ≠ gb153 ∧ k_ ≠ gb154) ho5 (fun k_ hk_ => ⟨Or.elim hk_.1 (fun hs_ => Or.elim hs_ (fun hs_ => hs_.1) (fun hs_ => (.inr (((Kd.R_types (Kd.R_types (HO166.out) BK153.out (by decide)) BK154.out (by decide)).1 k_ hs_.symm).1.1.1)))) (fun hn_ => (.inr (Nat.le_trans (ze_ (by repeat (first | (with_reducible first | exact HB.out | apply z9_ | apply z3_ | apply z6_ | refine z5_ ?_ GE153.out | refine z5_ ?_ GE154.out) | exact HB.out))) hn_))), hk_.2.1, hk_.2.2.1, hk_.2.2.2.1, hk_.2.2.2.2, Or.elim hk_.1 (fun hs_ => Or.elim hs_ (fun hs_ => hs_.2.1) (fun hs_ => ((Kd.R_types (Kd.R_types (HO166.out) BK153.out (by decide)) BK154.out (by decide)).1 k_ hs_.symm).1.1.2)) (fun hn_ => (Kd.fresh' (Kd.R_lt (by (with_reducible repeat (first | apply y7_ | apply y8_ | apply y9_)); exact HO163.out)) k_ hn_)), Or.elim hk_.1 (fun hs_ => Or.elim hs_ (fun hs_ => hs_.2.2.2.1) (fun hs_ => ((Kd.R_types (Kd.R_types (HO166.out) BK153.out (by decide)) BK154.out (by decide)).1 k_ hs_.symm).1.2)) (fun hn_ => (Kd.freshB (g := gb153) (o := .cells #[.slice A0_0 l0_0.length c0_0, .slice A0_1 l0_1.length c0_1, .slice A0_2 l0_2.length c0_2, .slice A0_3 l0_3.length c0_3, .slice A0_4 l0_4.length c0_4, .slice Ao19 y164.length co19] 48 (0, 0)) (by (with_reducible repeat (first | refine zb_ ?_ _ | refine zd_ ?_ | refine zc_ ?_ _)); exact BK153.out) k_ hn_)), Or.elim hk_.1 (fun hs_ => Or.elim hs_ (fun hs_ => hs_.2.2.2.2) (fun hs_ => ((Kd.R_types (Kd.R_types (HO166.out) BK153.out (by decide)) BK154.out (by decide)).1 k_ hs_.symm).2)) (fun hn_ => (Kd.freshB (g := gb154) (o := .cells #[.slice none 0 0, .slice none 0 0, .slice none 0 0, .slice none 0 0, .slice none 0 0, .slice none 0 0] 48 (0, 0)) (by (with_reducible repeat (first | refine zb_ ?_ _ | refine zd_ ?_ | refine zc_ ?_ _)); exact BK154.out) k_ hn_))⟩)) (ze_ (by repeat (first | (with_reducible first | exact HB.out | apply z9_ | apply z3_ | apply z6_ | refine z5_ ?_ GE153.out | refine z5_ ?_ GE154.out) | exact HB.out))))
   have n9_ := z1_.mk (zi_ (g := gb153) (o := .cells #[.slice A0_0 l0_0.length c0_0, .slice A0_1 l0_1.length c0_1, .slice A0_2 l0_2.length c0_2, .slice A0_3 l0_3.length c0_3, .slice A0_4 l0_4.length c0_4, .slice Ao19 y164.length co19] 48 (0, 0)) (by (with_reducible repeat (first | refine zb_ ?_ _ | refine zd_ ?_ | refine zc_ ?_ _)); exact BK153.out) hb)
   have n10_ := z1_.mk (zi_ (g := gb154) (o := .cells #[.slice none 0 0, .slice none 0 0, .slice none 0 0, .slice none 0 0, .slice none 0 0, .slice none 0 0] 48 (0, 0)) (by (with_reducible repeat (first | refine zb_ ?_ _ | refine zd_ ?_ | refine zc_ ?_ _)); exact BK154.out) hb)
   have n11_ := z1_.mk (z7_ (by repeat (first | (with_reducible first | exact HB.out | apply z9_ | apply z3_ | apply z6_ | refine z5_ ?_ GE153.out | refine z5_ ?_ GE154.out) | exact HB.out)) hb)
   clear HO0_1
   clear HO163
   clear HO166
   clear BK153
   clear BK154
   clear HB
   have HO0_1 := n0_
   have HO163 := n1_
   have HO166 := n2_
   have HO170 := n3_
   have HO173 := n4_
   have HO176 := n5_
   have HO179 := n6_
   have HO182 := n7_
   have HO185 := n8_
   have BK153 := n9_
   have BK154 := n10_
   have HB := n11_
   clear n0_ n1_ n2_ n3_ n4_ n5_ n6_ n7_ n8_ n9_ n10_ n11_
   (try clear hb)
   (try clear hb2)
   (try clear hk)
   (try clear hi)
   (try clear ho0)
   (try clear ho1)
   (try clear ho2)
   (try clear ho3)
   (try clear ho4)
   (try clear ho5)
   obtain ⟨Ao24, co24, eo24⟩ := Kd.R_slice HO170.out
   (first | subst eo24 | (injection eo24 with f1_ f2_ f3_; have f4_ := f1_.symm; have f5_ := f3_.symm; clear f1_ f2_ f3_; subst f4_; subst f5_))
   obtain ⟨Ao26, co26, eo26⟩ := Kd.V_slice HO173.out
   (first | subst eo26 | (injection eo26 with f1_ f2_ f3_; have f4_ := f1_.symm; have f5_ := f3_.symm; clear f1_ f2_ f3_; subst f4_; subst f5_))
   obtain ⟨Ao28, co28, eo28⟩ := Kd.R_slice HO176.out
   (first | subst eo28 | (injection eo28 with f1_ f2_ f3_; have f4_ := f1_.symm; have f5_ := f3_.symm; clear f1_ f2_ f3_; subst f4_; subst f5_))
   obtain ⟨Ao30, co30, eo30⟩ := Kd.R_slice HO179.out
   (first | subst eo30 | (injection eo30 with f1_ f2_ f3_; have f4_ := f1_.symm; have f5_ := f3_.symm; clear f1_ f2_ f3_; subst f4_; subst f5_))
   obtain ⟨Ao32, co32, eo32⟩ := Kd.R_slice HO182.out
   (first | subst eo32 | (injection eo32 with f1_ f2_ f3_; have f4_ := f1_.symm; have f5_ := f3_.symm; clear f1_ f2_ f3_; subst f4_; subst f5_))
   obtain ⟨Ao34, co34, eo34⟩ := Kd.V_slice HO185.out
   (first | subst eo34 | (injection eo34 with f1_ f2_ f3_; have f4_ := f1_.symm; have f5_ := f3_.symm; clear f1_ f2_ f3_; subst f4_; subst f5_))
   refine hK.out _ _ ⟨(z4_ BK153.out 0).trans rfl, (z4_ BK153.out 1).trans rfl, (z4_ BK153.out 2).trans rfl, (z4_ BK153.out 3).trans rfl, (z4_ BK153.out 4).trans rfl, (z4_ BK153.out 5).trans rfl⟩ (fun hHeld => ?_)
   clear hK K
   refine zv_ (a' := ?_) ?_ ?_
   rotate_left
   ·show Act.put _ (some 25) _ = _
    simp only [Act.put, zz_, y0_, y1_, zg_, zf_]
    rfl
   refine one_ (i := 9) (N := none) #[true, true, true, true, true, true, true, true, true, true] rfl rfl (one_of HT_.out (by kernel_rfl)) (by decide) (fun K hK => ?_)
   have hs25 : w23.cell? ⟨gb154, 0, none⟩ = some (.slice none 0 0) := (z4_ BK154.out 0).trans rfl
   have hfs25 := z0_ BK154.out 0; have hns25_0 := NB153_154.out
   have hms25_0 := NB154_153.out
   have hs27 : w23.cell? ⟨gb154, 1, none⟩ = some (.slice none 0 0) := (z4_ BK154.out 1).trans rfl
   have hfs27 := z0_ BK154.out 1; have hns27_0 := NB153_154.out
   have hms27_0 := NB154_153.out
   have hs29 : w23.cell? ⟨gb154, 2, none⟩ = some (.slice none 0 0) := (z4_ BK154.out 2).trans rfl
   have hfs29 := z0_ BK154.out 2; have hns29_0 := NB153_154.out
   have hms29_0 := NB154_153.out
   have hs31 : w23.cell? ⟨gb154, 3, none⟩ = some (.slice none 0 0) := (z4_ BK154.out 3).trans rfl
   have hfs31 := z0_ BK154.out 3; have hns31_0 := NB153_154.out
   have hms31_0 := NB154_153.out
   have hs33 : w23.cell? ⟨gb154, 4, none⟩ = some (.slice none 0 0) := (z4_ BK154.out 4).trans rfl
   have hfs33 := z0_ BK154.out 4; have hns33_0 := NB153_154.out
   have hms33_0 := NB154_153.out
   have hs35 : w23.cell? ⟨gb154, 5, none⟩ = some (.slice none 0 0) := (z4_ BK154.out 5).trans rfl
   have hfs35 := z0_ BK154.out 5; have hns35_0 := NB153_154.out
   have hms35_0 := NB154_153.out
   refine skip_ (w1 := ?_) (by rfl) rfl ?_ ?_
   rotate_left
   ·go_simp
    rfl
   refine hK.out _ _ ⟨((zr_ (p := ⟨gb154, _, none⟩) NB153_154.out _).trans (((zr_ (p := ⟨gb154, _, none⟩) NB153_154.out _).trans (((zr_ (p := ⟨gb154, _, none⟩) NB153_154.out _).trans (((zr_ (p := ⟨gb154, _, none⟩) NB153_154.out _).trans (((zr_ (p := ⟨gb154, _, none⟩) NB153_154.out _).trans (((zr_ (p := ⟨gb154, _, none⟩) NB153_154.out _).trans (hHeld.1)))))))))))), ((zr_ (p := ⟨gb154, _, none⟩) NB153_154.out _).trans (((zr_ (p := ⟨gb154, _, none⟩) NB153_154.out _).trans (((zr_ (p := ⟨gb154, _, none⟩) NB153_154.out _).trans (((zr_ (p := ⟨gb154, _, none⟩) NB153_154.out _).trans (((zr_ (p := ⟨gb154, _, none⟩) NB153_154.out _).trans (((zr_ (p := ⟨gb154, _, none⟩) NB153_154.out _).trans (hHeld.2.1)))))))))))), ((zr_ (p := ⟨gb154, _, none⟩) NB153_154.out _).trans (((zr_ (p := ⟨gb154, _, none⟩) NB153_154.out _).trans (((zr_ (p := ⟨gb154, _, none⟩) NB153_154.out _).trans (((zr_ (p := ⟨gb154, _, none⟩) NB153_154.out _).trans (((zr_ (p := ⟨gb154, _, none⟩) NB153_154.out _).trans (((zr_ (p := ⟨gb154, _, none⟩) NB153_154.out _).trans (hHeld.2.2.1)))))))))))), ((zr_ (p := ⟨gb154, _, none⟩) NB153_154.out _).trans (((zr_ (p := ⟨gb154, _, none⟩) NB153_154.out _).trans (((zr_ (p := ⟨gb154, _, none⟩) NB153_154.out _).trans (((zr_ (p := ⟨gb154, _, none⟩) NB153_154.out _).trans (((zr_ (p := ⟨gb154, _, none⟩) NB153_154.out _).trans (((zr_ (p := ⟨gb154, _, none⟩) NB153_154.out _).trans (hHeld.2.2.2.1)))))))))))), ((zr_ (p := ⟨gb154, _, none⟩) NB153_154.out _).trans (((zr_ (p := ⟨gb154, _, none⟩) NB153_154.out _).trans (((zr_ (p := ⟨gb154, _, none⟩) NB153_154.out _).trans (((zr_ (p := ⟨gb154, _, none⟩) NB153_154.out _).trans (((zr_ (p := ⟨gb154, _, none⟩) NB153_154.out _).trans (((zr_ (p := ⟨gb154, _, none⟩) NB153_154.out _).trans (hHeld.2.2.2.2.1)))))))))))), ((zr_ (p := ⟨gb154, _, none⟩) NB153_154.out _).trans (((zr_ (p := ⟨gb154, _, none⟩) NB153_154.out _).trans (((zr_ (p := ⟨gb154, _, none⟩) NB153_154.out _).trans (((zr_ (p := ⟨gb154, _, none⟩) NB153_154.out _).trans (((zr_ (p := ⟨gb154, _, none⟩) NB153_154.out _).trans (((zr_ (p := ⟨gb154, _, none⟩) NB153_154.out _).trans (hHeld.2.2.2.2.2))))))))))))⟩ (fun hHeld => ?_)
   clear hK K
   refine done_ (done_of HT_.out (by kernel_rfl)) ?_
   try go_wp2
   refine bodyPost_ret (results_cell_row rfl _ _ gb154 48 #[.slice Ao24 t168.length co24, .slice Ao26 t171.length co26, .slice Ao28 t174.length co28, .slice Ao30 t177.length co30, .slice Ao32 t180.length co32, .slice Ao34 t183.length co34] (0, 0) _ rfl (by (with_reducible repeat (first | refine zb_ ?_ _ | refine zd_ ?_ | refine zc_ ?_ _)); refine zw_ (cs := #[.slice Ao24 t168.length co24, .slice Ao26 t171.length co26, .slice Ao28 t174.length co28, .slice Ao30 t177.length co30, .slice Ao32 t180.length co32, .slice none 0 0]) ?_ 5 _ (by first | rfl | (simp; done)); (with_reducible repeat (first | refine zb_ ?_ _ | refine zd_ ?_ | refine zc_ ?_ _)); refine zw_ (cs := #[.slice Ao24 t168.length co24, .slice Ao26 t171.length co26, .slice Ao28 t174.length co28, .slice Ao30 t177.length co30, .slice none 0 0, .slice none 0 0]) ?_ 4 _ (by first | rfl | (simp; done)); (with_reducible repeat (first | refine zb_ ?_ _ | refine zd_ ?_ | refine zc_ ?_ _)); refine zw_ (cs := #[.slice Ao24 t168.length co24, .slice Ao26 t171.length co26, .slice Ao28 t174.length co28, .slice none 0 0, .slice none 0 0, .slice none 0 0]) ?_ 3 _ (by first | rfl | (simp; done)); (with_reducible repeat (first | refine zb_ ?_ _ | refine zd_ ?_ | refine zc_ ?_ _)); refine zw_ (cs := #[.slice Ao24 t168.length co24, .slice Ao26 t171.length co26, .slice none 0 0, .slice none 0 0, .slice none 0 0, .slice none 0 0]) ?_ 2 _ (by first | rfl | (simp; done)); (with_reducible repeat (first | refine zb_ ?_ _ | refine zd_ ?_ | refine zc_ ?_ _)); refine zw_ (cs := #[.slice Ao24 t168.length co24, .slice none 0 0, .slice none 0 0, .slice none 0 0, .slice none 0 0, .slice none 0 0]) ?_ 1 _ (by first | rfl | (simp; done)); (with_reducible repeat (first | refine zb_ ?_ _ | refine zd_ ?_ | refine zc_ ?_ _)); refine zw_ (cs := #[.slice none 0 0, .slice none 0 0, .slice none 0 0, .slice none 0 0, .slice none 0 0, .slice none 0 0]) ?_ 0 _ (by first | rfl | (simp; done)); (with_reducible repeat (first | refine zb_ ?_ _ | refine zd_ ?_ | refine zc_ ?_ _)); exact BK154.out) Try.underlying48 rfl (by kernel_rfl)) rfl ?_
   exact ⟨_, _, _, _, _, _, by first | rfl | (simp [errW_none, errW_some] <;> rfl) | (simp [*, errW_none, errW_some] <;> rfl), by (with_reducible repeat (first | apply y7_ | apply y8_ | apply y9_)); exact Kd.R_mono (Kd.R_far (p := ⟨gb154, 5, none⟩) (Kd.R_far (p := ⟨gb154, 4, none⟩) (Kd.R_far (p := ⟨gb154, 3, none⟩) (Kd.R_far (p := ⟨gb154, 2, none⟩) (Kd.R_far (p := ⟨gb154, 1, none⟩) (Kd.R_far (p := ⟨gb154, 0, none⟩) (Kd.R_types HO170.out BK154.out (by decide)) (fun _ hk => hk.2) (.slice Ao24 t168.length co24)) (fun _ hk => hk.2) (.slice Ao26 t171.length co26)) (fun _ hk => hk.2) (.slice Ao28 t174.length co28)) (fun _ hk => hk.2) (.slice Ao30 t177.length co30)) (fun _ hk => hk.2) (.slice Ao32 t180.length co32)) (fun _ hk => hk.2) (.slice Ao34 t183.length co34)) (fun _ hk => hk.1.1), by (with_reducible repeat (first | apply ya_ | apply yb_ | apply yc_)); exact Kd.V_mono (Kd.V_far (p := ⟨gb154, 5, none⟩) (Kd.V_far (p := ⟨gb154, 4, none⟩) (Kd.V_far (p := ⟨gb154, 3, none⟩) (Kd.V_far (p := ⟨gb154, 2, none⟩) (Kd.V_far (p := ⟨gb154, 1, none⟩) (Kd.V_far (p := ⟨gb154, 0, none⟩) (Kd.V_mono HO173.out (fun k_ hk => (⟨hk, hk.2.2.2.2.2.2.2⟩ : _ ∧ k_ ≠ gb154))) (fun _ hk => hk.2) (.slice Ao24 t168.length co24)) (fun _ hk => hk.2) (.slice Ao26 t171.length co26)) (fun _ hk => hk.2) (.slice Ao28 t174.length co28)) (fun _ hk => hk.2) (.slice Ao30 t177.length co30)) (fun _ hk => hk.2) (.slice Ao32 t180.length co32)) (fun _ hk => hk.2) (.slice Ao34 t183.length co34)) (fun _ hk => ⟨hk.1.1, ⟨hk.1.2.1, ⟨hk.1.2.2.1, ⟨hk.1.2.2.2.1, hk.1.2.2.2.2.1⟩⟩⟩⟩), by (with_reducible repeat (first | apply y7_ | apply y8_ | apply y9_)); exact Kd.R_mono (Kd.R_far (p := ⟨gb154, 5, none⟩) (Kd.R_far (p := ⟨gb154, 4, none⟩) (Kd.R_far (p := ⟨gb154, 3, none⟩) (Kd.R_far (p := ⟨gb154, 2, none⟩) (Kd.R_far (p := ⟨gb154, 1, none⟩) (Kd.R_far (p := ⟨gb154, 0, none⟩) (Kd.R_types HO176.out BK154.out (by decide)) (fun _ hk => hk.2) (.slice Ao24 t168.length co24)) (fun _ hk => hk.2) (.slice Ao26 t171.length co26)) (fun _ hk => hk.2) (.slice Ao28 t174.length co28)) (fun _ hk => hk.2) (.slice Ao30 t177.length co30)) (fun _ hk => hk.2) (.slice Ao32 t180.length co32)) (fun _ hk => hk.2) (.slice Ao34 t183.length co34)) (fun _ hk => ⟨hk.1.1.1.1, hk.1.1.1.2⟩), by (with_reducible repeat (first | apply y7_ | apply y8_ | apply y9_)); exact Kd.R_mono (Kd.R_far (p := ⟨gb154, 5, none⟩) (Kd.R_far (p := ⟨gb154, 4, none⟩) (Kd.R_far (p := ⟨gb154, 3, none⟩) (Kd.R_far (p := ⟨gb154, 2, none⟩) (Kd.R_far (p := ⟨gb154, 1, none⟩) (Kd.R_far (p := ⟨gb154, 0, none⟩) (Kd.R_types HO179.out BK154.out (by decide)) (fun _ hk => hk.2) (.slice Ao24 t168.length co24)) (fun _ hk => hk.2) (.slice Ao26 t171.length co26)) (fun _ hk => hk.2) (.slice Ao28 t174.length co28)) (fun _ hk => hk.2) (.slice Ao30 t177.length co30)) (fun _ hk => hk.2) (.slice Ao32 t180.length co32)) (fun _ hk => hk.2) (.slice Ao34 t183.length co34)) (fun _ hk => hk.1.1), by (with_reducible repeat (first | apply y7_ | apply y8_ | apply y9_)); exact Kd.R_mono (Kd.R_far (p := ⟨gb154, 5, none⟩) (Kd.R_far (p := ⟨gb154, 4, none⟩) (Kd.R_far (p := ⟨gb154, 3, none⟩) (Kd.R_far (p := ⟨gb154, 2, none⟩) (Kd.R_far (p := ⟨gb154, 1, none⟩) (Kd.R_far (p := ⟨gb154, 0, none⟩) (Kd.R_types HO182.out BK154.out (by decide)) (fun _ hk => hk.2) (.slice Ao24 t168.length co24)) (fun _ hk => hk.2) (.slice Ao26 t171.length co26)) (fun _ hk => hk.2) (.slice Ao28 t174.length co28)) (fun _ hk => hk.2) (.slice Ao30 t177.length co30)) (fun _ hk => hk.2) (.slice Ao32 t180.length co32)) (fun _ hk => hk.2) (.slice Ao34 t183.length co34)) (fun _ hk => ⟨hk.1.1.1.1, hk.1.1.1.2⟩), by (with_reducible repeat (first | apply ya_ | apply yb_ | apply yc_)); exact Kd.V_mono (Kd.V_far (p := ⟨gb154, 5, none⟩) (Kd.V_far (p := ⟨gb154, 4, none⟩) (Kd.V_far (p := ⟨gb154, 3, none⟩) (Kd.V_far (p := ⟨gb154, 2, none⟩) (Kd.V_far (p := ⟨gb154, 1, none⟩) (Kd.V_far (p := ⟨gb154, 0, none⟩) (Kd.V_mono HO185.out (fun k_ hk => (⟨hk, hk.2.2.2.2.2.2.2⟩ : _ ∧ k_ ≠ gb154))) (fun _ hk => hk.2) (.slice Ao24 t168.length co24)) (fun _ hk => hk.2) (.slice Ao26 t171.length co26)) (fun _ hk => hk.2) (.slice Ao28 t174.length co28)) (fun _ hk => hk.2) (.slice Ao30 t177.length co30)) (fun _ hk => hk.2) (.slice Ao32 t180.length co32)) (fun _ hk => hk.2) (.slice Ao34 t183.length co34)) (fun _ hk => ⟨hk.1.1, ⟨hk.1.2.1, ⟨hk.1.2.2.1, ⟨hk.1.2.2.2.1, hk.1.2.2.2.2.1⟩⟩⟩⟩), by repeat (first | (with_reducible first | exact HB.out | apply z9_ | apply z3_ | apply z6_ | refine z5_ ?_ GE153.out | refine z5_ ?_ GE154.out) | exact HB.out)⟩
  ·rw [if_neg c5] at H
   exact absurd H (by simp)
 ·rw [if_neg c4] at H
  exact absurd H (by simp)
def r6New.f (k : Nat)  : Option ((List (S36)) × (List (S81)) × List Int × List Bool × List Int × List Int) := (r6FS_device.f k ([] : List (S36)) ([] : List (S81)) ([] : List Int) ([] : List Bool) ([] : List Int) ([] : List Int) 493 0).bind fun bt187 => (some (bt187.1, bt187.2.1, bt187.2.2.1, bt187.2.2.2.1, bt187.2.2.2.2.1, bt187.2.2.2.2.2))
theorem r6New.mono : ∀ k, LeO (r6New.f k ) (r6New.f (k + 1) ) := by
 intro  k
 unfold r6New.f
 repeat' first
   | (with_reducible exact r6FS_device.mono _ _ _ _ _ _ _ _ _)
   | (with_reducible exact LeO.refl _)
   | (with_reducible exact LeO.none _)
   | (with_reducible refine LeO.ite ?_ ?_)
   | (with_reducible refine LeO.bind ?_ (fun _ => ?_))
   | exact r6FS_device.mono _ _ _ _ _ _ _ _ _
   | exact LeO.none _
   | refine LeO.ite ?_ ?_
   | refine LeO.bind ?_ (fun _ => ?_)
set_option maxHeartbeats 8000000 in
set_option maxRecDepth 100000 in
theorem r6New.calls (k : Nat)  (r1 : List (S36)) (r2 : List (S81)) (r3 : List Int) (r4 : List Bool) (r5 : List Int) (r6 : List Int) (w : World) (h : r6New.f k  = some (r1, r2, r3, r4, r5, r6)) :
  Calls Try.prog 18 #[] w fun e w' => ∃ v0_ v1_ v2_ v3_ v4_ v5_ : Value, e = .returned (.agg #[v0_, v1_, v2_, v3_, v4_, v5_]) ∧ Kd.R k36 36 w' w.heap.size (fun k_ => (w.heap.size ≤ k_)) v0_ r1 ∧ Kd.V k81 81 w' w.heap.size (fun k_ => (w.heap.size ≤ k_) ∧ some k_ ≠ (v0_ : Value).ownBlock ∧ some k_ ≠ (v2_ : Value).ownBlock ∧ some k_ ≠ (v3_ : Value).ownBlock ∧ some k_ ≠ (v4_ : Value).ownBlock) v1_ r2 ∧ Kd.R (Kd.int .i64) 3 w' w.heap.size (fun k_ => (w.heap.size ≤ k_) ∧ some k_ ≠ (v4_ : Value).ownBlock) v2_ r3 ∧ Kd.R Kd.bool 4 w' w.heap.size (fun k_ => (w.heap.size ≤ k_)) v3_ r4 ∧ Kd.R (Kd.int .i64) 3 w' w.heap.size (fun k_ => (w.heap.size ≤ k_) ∧ some k_ ≠ (v2_ : Value).ownBlock) v4_ r5 ∧ Kd.V (Kd.int .i64) 3 w' w.heap.size (fun k_ => (w.heap.size ≤ k_) ∧ some k_ ≠ (v0_ : Value).ownBlock ∧ some k_ ≠ (v2_ : Value).ownBlock ∧ some k_ ≠ (v3_ : Value).ownBlock ∧ some k_ ≠ (v4_ : Value).ownBlock) v5_ r6 ∧ Below w.heap.size w w' := by
 have hu48 := Try.underlying48
 have HB := z1_.mk (y6_ w.heap.size w)
 have H : ((r6FS_device.f k ([] : List (S36)) ([] : List (S81)) ([] : List Int) ([] : List Bool) ([] : List Int) ([] : List Int) 493 0).bind fun bt187 => (some (bt187.1, bt187.2.1, bt187.2.2.1, bt187.2.2.2.1, bt187.2.2.2.2.1, bt187.2.2.2.2.2))) = some (r1, r2, r3, r4, r5, r6) := h
 clear h
 replace H := Option.bind_eq_some_iff.mp H
 obtain ⟨⟨t187, t190, t193, t196, t199, t202⟩, A10, H⟩ := H
 replace H : (some (t187, t190, t193, t196, t199, t202)) = some (r1, r2, r3, r4, r5, r6) := H
 have A1 := z1_.mk A10
 clear A10
 simp only [Option.some.injEq, Prod.mk.injEq] at H
 obtain ⟨rfl, rfl, rfl, rfl, rfl, rfl⟩ := H
 go_enter Try.func18, Try.ntmps18
 go_wp2_with (first | ((with_reducible refine gate_dst (N := 0) rfl ?_); refine box_event ?hg (N := 0) ?hd (cs := #[.slice none 0 0, .slice none 0 0, .slice none 0 0, .slice none 0 0, .slice none 0 0, .slice none 0 0]) (t := 48) ?hr ?_; (case hd => rfl); (case hg => rfl); (case hr => first | (go_simp; done) | (go_simp; rfl)); intro gb186 hg w2 hbox hb; have n0_ := z1_.mk (z7_ (by repeat (first | (with_reducible first | exact HB.out | apply z9_ | apply z3_ | apply z6_) | exact HB.out)) hb); have n1_ := z1_.mk (hbox); have n2_ := z1_.mk ((by rw [hg]; exact (ze_ (by repeat (first | (with_reducible first | exact HB.out | apply z9_ | apply z3_ | apply z6_) | exact HB.out))) : w.heap.size ≤ gb186)); have n3_ := z1_.mk ((by rw [hg]; exact (ze_ (by repeat (first | (with_reducible first | exact HB.out | apply z9_ | apply z3_ | apply z6_) | exact HB.out))) : w.heap.size ≤ gb186)); clear HB; have HB := n0_; have BK186 := n1_; have GW186 := n2_; have GE186 := n3_; clear n0_ n1_ n2_ n3_; clear hb hbox hg) | ((with_reducible refine gate_callee (f := 30) rfl ?_); refine goesL_ (some 2) rfl rfl Try.func30 (by kernel_rfl) rfl #[.agg #[.slice none 0 0, .slice none 0 0, .slice none 0 0, .slice none 0 0, .slice none 0 0, .slice none 0 0], .int .i64 493, .int .i64 0] rfl (by (try simp only [List.map_toArray, List.map_cons, List.map_nil]); first | done | rfl | (simp only [List.length_drop, List.length_take]; rfl)) ?_; (refine (r6FS_device.calls k _ _ ([] : List (S36)) (fun k_ => False) _ _ ([] : List (S81)) _ _ ([] : List Int) _ _ ([] : List Bool) _ _ ([] : List Int) _ _ ([] : List Int) 493 0 t187 t190 t193 t196 t199 t202 _ ?side1 ?side2 ?side3 ?side4 ?side5 ?side6 ?side7 ?side8 ?side9 ?side10 ?side11 A1.out).mono ?_); (case side1 => exact Kd.C_nil _ _); (case side2 => exact y2_ _); (case side3 => exact Kd.V_nil _ _ _ _ _); (case side4 => exact Kd.C_nil _ _); (case side5 => exact y2_ _); (case side6 => exact Kd.C_nil _ _); (case side7 => exact y2_ _); (case side8 => exact Kd.C_nil _ _); (case side9 => exact y2_ _); (case side10 => exact Kd.C_nil _ _); (case side11 => exact y2_ _); rintro e w3 ⟨v188, v191, v194, v197, v200, v203, rfl, ho0, ho1, ho2, ho3, ho4, ho5, hb⟩; refine ⟨_, rfl, ?_⟩; have n0_ := z1_.mk (Kd.R_lower (Kd.R_newM (M := fun k_ => (w.heap.size ≤ k_)) (Kd.R_mono (ok' := fun k_ => True) ho0 (fun _ hk_ => trivial)) (ze_ (by repeat (first | (with_reducible first | exact HB.out | apply z9_ | apply z3_ | apply z6_ | refine z5_ ?_ GE186.out) | exact HB.out))) (fun k_ h_ => h_)) (ze_ (by repeat (first | (with_reducible first | exact HB.out | apply z9_ | apply z3_ | apply z6_ | refine z5_ ?_ GE186.out) | exact HB.out)))); have n1_ := z1_.mk (Kd.V_lower (Kd.V_mono (ok' := fun k_ => (w.heap.size ≤ k_) ∧ some k_ ≠ (v188 : Value).ownBlock ∧ some k_ ≠ (v194 : Value).ownBlock ∧ some k_ ≠ (v197 : Value).ownBlock ∧ some k_ ≠ (v200 : Value).ownBlock ∧ k_ ≠ gb186) ho1 (fun k_ hk_ => ⟨Or.elim hk_.1 (fun hs_ => (hs_).elim) (fun hn_ => (Nat.le_trans (ze_ (by repeat (first | (with_reducible first | exact HB.out | apply z9_ | apply z3_ | apply z6_ | refine z5_ ?_ GE186.out) | exact HB.out))) hn_)), hk_.2.1, hk_.2.2.1, hk_.2.2.2.1, hk_.2.2.2.2, Or.elim hk_.1 (fun hs_ => (hs_).elim) (fun hn_ => (Kd.freshB (g := gb186) (o := .cells #[.slice none 0 0, .slice none 0 0, .slice none 0 0, .slice none 0 0, .slice none 0 0, .slice none 0 0] 48 (0, 0)) (by (with_reducible repeat (first | refine zb_ ?_ _ | refine zd_ ?_ | refine zc_ ?_ _)); exact BK186.out) k_ hn_))⟩)) (ze_ (by repeat (first | (with_reducible first | exact HB.out | apply z9_ | apply z3_ | apply z6_ | refine z5_ ?_ GE186.out) | exact HB.out)))); have n2_ := z1_.mk (Kd.R_lower (Kd.R_newM (M := fun k_ => (w.heap.size ≤ k_)) (Kd.R_mono (ok' := fun k_ => some k_ ≠ (v200 : Value).ownBlock) ho2 (fun _ hk_ => hk_.2)) (ze_ (by repeat (first | (with_reducible first | exact HB.out | apply z9_ | apply z3_ | apply z6_ | refine z5_ ?_ GE186.out) | exact HB.out))) (fun k_ h_ => h_)) (ze_ (by repeat (first | (with_reducible first | exact HB.out | apply z9_ | apply z3_ | apply z6_ | refine z5_ ?_ GE186.out) | exact HB.out)))); have n3_ := z1_.mk (Kd.R_lower (Kd.R_newM (M := fun k_ => (w.heap.size ≤ k_)) (Kd.R_mono (ok' := fun k_ => True) ho3 (fun _ hk_ => trivial)) (ze_ (by repeat (first | (with_reducible first | exact HB.out | apply z9_ | apply z3_ | apply z6_ | refine z5_ ?_ GE186.out) | exact HB.out))) (fun k_ h_ => h_)) (ze_ (by repeat (first | (with_reducible first | exact HB.out | apply z9_ | apply z3_ | apply z6_ | refine z5_ ?_ GE186.out) | exact HB.out)))); have n4_ := z1_.mk (Kd.R_lower (Kd.R_newM (M := fun k_ => (w.heap.size ≤ k_)) (Kd.R_mono (ok' := fun k_ => some k_ ≠ (v194 : Value).ownBlock) ho4 (fun _ hk_ => hk_.2)) (ze_ (by repeat (first | (with_reducible first | exact HB.out | apply z9_ | apply z3_ | apply z6_ | refine z5_ ?_ GE186.out) | exact HB.out))) (fun k_ h_ => h_)) (ze_ (by repeat (first | (with_reducible first | exact HB.out | apply z9_ | apply z3_ | apply z6_ | refine z5_ ?_ GE186.out) | exact HB.out)))); have n5_ := z1_.mk (Kd.V_lower (Kd.V_mono (ok' := fun k_ => (w.heap.size ≤ k_) ∧ some k_ ≠ (v188 : Value).ownBlock ∧ some k_ ≠ (v194 : Value).ownBlock ∧ some k_ ≠ (v197 : Value).ownBlock ∧ some k_ ≠ (v200 : Value).ownBlock ∧ k_ ≠ gb186) ho5 (fun k_ hk_ => ⟨Or.elim hk_.1 (fun hs_ => (hs_).elim) (fun hn_ => (Nat.le_trans (ze_ (by repeat (first | (with_reducible first | exact HB.out | apply z9_ | apply z3_ | apply z6_ | refine z5_ ?_ GE186.out) | exact HB.out))) hn_)), hk_.2.1, hk_.2.2.1, hk_.2.2.2.1, hk_.2.2.2.2, Or.elim hk_.1 (fun hs_ => (hs_).elim) (fun hn_ => (Kd.freshB (g := gb186) (o := .cells #[.slice none 0 0, .slice none 0 0, .slice none 0 0, .slice none 0 0, .slice none 0 0, .slice none 0 0] 48 (0, 0)) (by (with_reducible repeat (first | refine zb_ ?_ _ | refine zd_ ?_ | refine zc_ ?_ _)); exact BK186.out) k_ hn_))⟩)) (ze_ (by repeat (first | (with_reducible first | exact HB.out | apply z9_ | apply z3_ | apply z6_ | refine z5_ ?_ GE186.out) | exact HB.out)))); have n6_ := z1_.mk (zi_ (g := gb186) (o := .cells #[.slice none 0 0, .slice none 0 0, .slice none 0 0, .slice none 0 0, .slice none 0 0, .slice none 0 0] 48 (0, 0)) (by (with_reducible repeat (first | refine zb_ ?_ _ | refine zd_ ?_ | refine zc_ ?_ _)); exact BK186.out) hb); have n7_ := z1_.mk (z7_ (by repeat (first | (with_reducible first | exact HB.out | apply z9_ | apply z3_ | apply z6_ | refine z5_ ?_ GE186.out) | exact HB.out)) hb); clear BK186; clear HB; have HO189 := n0_; have HO192 := n1_; have HO195 := n2_; have HO198 := n3_; have HO201 := n4_; have HO204 := n5_; have BK186 := n6_; have HB := n7_; clear n0_ n1_ n2_ n3_ n4_ n5_ n6_ n7_; (try clear hb); (try clear hb2); (try clear hk); (try clear hi); (try clear ho0); (try clear ho1); (try clear ho2); (try clear ho3); (try clear ho4); (try clear ho5); obtain ⟨Ao4, co4, eo4⟩ := Kd.R_slice HO189.out; subst eo4; have hcz5_0 : w3.cell? ⟨gb186, 0, none⟩ = some (.slice none 0 0) := (z4_ BK186.out 0).trans rfl; have hcz5_1 : w3.cell? ⟨gb186, 1, none⟩ = some (.slice none 0 0) := (z4_ BK186.out 1).trans rfl; have hcz5_2 : w3.cell? ⟨gb186, 2, none⟩ = some (.slice none 0 0) := (z4_ BK186.out 2).trans rfl; have hcz5_3 : w3.cell? ⟨gb186, 3, none⟩ = some (.slice none 0 0) := (z4_ BK186.out 3).trans rfl; have hcz5_4 : w3.cell? ⟨gb186, 4, none⟩ = some (.slice none 0 0) := (z4_ BK186.out 4).trans rfl; have hcz5_5 : w3.cell? ⟨gb186, 5, none⟩ = some (.slice none 0 0) := (z4_ BK186.out 5).trans rfl; have hfz5_0 := z0_ BK186.out 0; have hfz5_1 := z0_ BK186.out 1; have hfz5_2 := z0_ BK186.out 2; have hfz5_3 := z0_ BK186.out 3; have hfz5_4 := z0_ BK186.out 4; have hfz5_5 := z0_ BK186.out 5; obtain ⟨Ao6, co6, eo6⟩ := Kd.V_slice HO192.out; subst eo6; obtain ⟨Ao7, co7, eo7⟩ := Kd.R_slice HO195.out; subst eo7; obtain ⟨Ao8, co8, eo8⟩ := Kd.R_slice HO198.out; subst eo8; obtain ⟨Ao9, co9, eo9⟩ := Kd.R_slice HO201.out; subst eo9; obtain ⟨Ao10, co10, eo10⟩ := Kd.V_slice HO204.out; subst eo10))
 refine bodyPost_ret (results_cell_row rfl _ _ gb186 48 #[.slice Ao4 t187.length co4, .slice Ao6 t190.length co6, .slice Ao7 t193.length co7, .slice Ao8 t196.length co8, .slice Ao9 t199.length co9, .slice Ao10 t202.length co10] (0, 0) _ rfl (by (with_reducible repeat (first | refine zb_ ?_ _ | refine zd_ ?_ | refine zc_ ?_ _)); refine zw_ (cs := #[.slice Ao4 t187.length co4, .slice Ao6 t190.length co6, .slice Ao7 t193.length co7, .slice Ao8 t196.length co8, .slice Ao9 t199.length co9, .slice none 0 0]) ?_ 5 _ (by first | rfl | (simp; done)); (with_reducible repeat (first | refine zb_ ?_ _ | refine zd_ ?_ | refine zc_ ?_ _)); refine zw_ (cs := #[.slice Ao4 t187.length co4, .slice Ao6 t190.length co6, .slice Ao7 t193.length co7, .slice Ao8 t196.length co8, .slice none 0 0, .slice none 0 0]) ?_ 4 _ (by first | rfl | (simp; done)); (with_reducible repeat (first | refine zb_ ?_ _ | refine zd_ ?_ | refine zc_ ?_ _)); refine zw_ (cs := #[.slice Ao4 t187.length co4, .slice Ao6 t190.length co6, .slice Ao7 t193.length co7, .slice none 0 0, .slice none 0 0, .slice none 0 0]) ?_ 3 _ (by first | rfl | (simp; done)); (with_reducible repeat (first | refine zb_ ?_ _ | refine zd_ ?_ | refine zc_ ?_ _)); refine zw_ (cs := #[.slice Ao4 t187.length co4, .slice Ao6 t190.length co6, .slice none 0 0, .slice none 0 0, .slice none 0 0, .slice none 0 0]) ?_ 2 _ (by first | rfl | (simp; done)); (with_reducible repeat (first | refine zb_ ?_ _ | refine zd_ ?_ | refine zc_ ?_ _)); refine zw_ (cs := #[.slice Ao4 t187.length co4, .slice none 0 0, .slice none 0 0, .slice none 0 0, .slice none 0 0, .slice none 0 0]) ?_ 1 _ (by first | rfl | (simp; done)); (with_reducible repeat (first | refine zb_ ?_ _ | refine zd_ ?_ | refine zc_ ?_ _)); refine zw_ (cs := #[.slice none 0 0, .slice none 0 0, .slice none 0 0, .slice none 0 0, .slice none 0 0, .slice none 0 0]) ?_ 0 _ (by first | rfl | (simp; done)); (with_reducible repeat (first | refine zb_ ?_ _ | refine zd_ ?_ | refine zc_ ?_ _)); exact BK186.out) Try.underlying48 rfl (by kernel_rfl)) rfl ?_
 exact ⟨_, _, _, _, _, _, by first | rfl | (simp [errW_none, errW_some] <;> rfl) | (simp [*, errW_none, errW_some] <;> rfl), by (with_reducible repeat (first | apply y7_ | apply y8_ | apply y9_)); exact Kd.R_mono (Kd.R_far (p := ⟨gb186, 5, none⟩) (Kd.R_far (p := ⟨gb186, 4, none⟩) (Kd.R_far (p := ⟨gb186, 3, none⟩) (Kd.R_far (p := ⟨gb186, 2, none⟩) (Kd.R_far (p := ⟨gb186, 1, none⟩) (Kd.R_far (p := ⟨gb186, 0, none⟩) (Kd.R_types HO189.out BK186.out (by decide)) (fun _ hk => hk.2) (.slice Ao4 t187.length co4)) (fun _ hk => hk.2) (.slice Ao6 t190.length co6)) (fun _ hk => hk.2) (.slice Ao7 t193.length co7)) (fun _ hk => hk.2) (.slice Ao8 t196.length co8)) (fun _ hk => hk.2) (.slice Ao9 t199.length co9)) (fun _ hk => hk.2) (.slice Ao10 t202.length co10)) (fun _ hk => hk.1.1), by (with_reducible repeat (first | apply ya_ | apply yb_ | apply yc_)); exact Kd.V_mono (Kd.V_far (p := ⟨gb186, 5, none⟩) (Kd.V_far (p := ⟨gb186, 4, none⟩) (Kd.V_far (p := ⟨gb186, 3, none⟩) (Kd.V_far (p := ⟨gb186, 2, none⟩) (Kd.V_far (p := ⟨gb186, 1, none⟩) (Kd.V_far (p := ⟨gb186, 0, none⟩) (Kd.V_mono HO192.out (fun k_ hk => (⟨hk, hk.2.2.2.2.2⟩ : _ ∧ k_ ≠ gb186))) (fun _ hk => hk.2) (.slice Ao4 t187.length co4)) (fun _ hk => hk.2) (.slice Ao6 t190.length co6)) (fun _ hk => hk.2) (.slice Ao7 t193.length co7)) (fun _ hk => hk.2) (.slice Ao8 t196.length co8)) (fun _ hk => hk.2) (.slice Ao9 t199.length co9)) (fun _ hk => hk.2) (.slice Ao10 t202.length co10)) (fun _ hk => ⟨hk.1.1, ⟨hk.1.2.1, ⟨hk.1.2.2.1, ⟨hk.1.2.2.2.1, hk.1.2.2.2.2.1⟩⟩⟩⟩), by (with_reducible repeat (first | apply y7_ | apply y8_ | apply y9_)); exact Kd.R_mono (Kd.R_far (p := ⟨gb186, 5, none⟩) (Kd.R_far (p := ⟨gb186, 4, none⟩) (Kd.R_far (p := ⟨gb186, 3, none⟩) (Kd.R_far (p := ⟨gb186, 2, none⟩) (Kd.R_far (p := ⟨gb186, 1, none⟩) (Kd.R_far (p := ⟨gb186, 0, none⟩) (Kd.R_types HO195.out BK186.out (by decide)) (fun _ hk => hk.2) (.slice Ao4 t187.length co4)) (fun _ hk => hk.2) (.slice Ao6 t190.length co6)) (fun _ hk => hk.2) (.slice Ao7 t193.length co7)) (fun _ hk => hk.2) (.slice Ao8 t196.length co8)) (fun _ hk => hk.2) (.slice Ao9 t199.length co9)) (fun _ hk => hk.2) (.slice Ao10 t202.length co10)) (fun _ hk => ⟨hk.1.1, hk.1.2⟩), by (with_reducible repeat (first | apply y7_ | apply y8_ | apply y9_)); exact Kd.R_mono (Kd.R_far (p := ⟨gb186, 5, none⟩) (Kd.R_far (p := ⟨gb186, 4, none⟩) (Kd.R_far (p := ⟨gb186, 3, none⟩) (Kd.R_far (p := ⟨gb186, 2, none⟩) (Kd.R_far (p := ⟨gb186, 1, none⟩) (Kd.R_far (p := ⟨gb186, 0, none⟩) (Kd.R_types HO198.out BK186.out (by decide)) (fun _ hk => hk.2) (.slice Ao4 t187.length co4)) (fun _ hk => hk.2) (.slice Ao6 t190.length co6)) (fun _ hk => hk.2) (.slice Ao7 t193.length co7)) (fun _ hk => hk.2) (.slice Ao8 t196.length co8)) (fun _ hk => hk.2) (.slice Ao9 t199.length co9)) (fun _ hk => hk.2) (.slice Ao10 t202.length co10)) (fun _ hk => hk.1.1), by (with_reducible repeat (first | apply y7_ | apply y8_ | apply y9_)); exact Kd.R_mono (Kd.R_far (p := ⟨gb186, 5, none⟩) (Kd.R_far (p := ⟨gb186, 4, none⟩) (Kd.R_far (p := ⟨gb186, 3, none⟩) (Kd.R_far (p := ⟨gb186, 2, none⟩) (Kd.R_far (p := ⟨gb186, 1, none⟩) (Kd.R_far (p := ⟨gb186, 0, none⟩) (Kd.R_types HO201.out BK186.out (by decide)) (fun _ hk => hk.2) (.slice Ao4 t187.length co4)) (fun _ hk => hk.2) (.slice Ao6 t190.length co6)) (fun _ hk => hk.2) (.slice Ao7 t193.length co7)) (fun _ hk => hk.2) (.slice Ao8 t196.length co8)) (fun _ hk => hk.2) (.slice Ao9 t199.length co9)) (fun _ hk => hk.2) (.slice Ao10 t202.length co10)) (fun _ hk => ⟨hk.1.1, hk.1.2⟩), by (with_reducible repeat (first | apply ya_ | apply yb_ | apply yc_)); exact Kd.V_mono (Kd.V_far (p := ⟨gb186, 5, none⟩) (Kd.V_far (p := ⟨gb186, 4, none⟩) (Kd.V_far (p := ⟨gb186, 3, none⟩) (Kd.V_far (p := ⟨gb186, 2, none⟩) (Kd.V_far (p := ⟨gb186, 1, none⟩) (Kd.V_far (p := ⟨gb186, 0, none⟩) (Kd.V_mono HO204.out (fun k_ hk => (⟨hk, hk.2.2.2.2.2⟩ : _ ∧ k_ ≠ gb186))) (fun _ hk => hk.2) (.slice Ao4 t187.length co4)) (fun _ hk => hk.2) (.slice Ao6 t190.length co6)) (fun _ hk => hk.2) (.slice Ao7 t193.length co7)) (fun _ hk => hk.2) (.slice Ao8 t196.length co8)) (fun _ hk => hk.2) (.slice Ao9 t199.length co9)) (fun _ hk => hk.2) (.slice Ao10 t202.length co10)) (fun _ hk => ⟨hk.1.1, ⟨hk.1.2.1, ⟨hk.1.2.2.1, ⟨hk.1.2.2.2.1, hk.1.2.2.2.2.1⟩⟩⟩⟩), by repeat (first | (with_reducible first | exact HB.out | apply z9_ | apply z3_ | apply z6_ | refine z5_ ?_ GE186.out) | exact HB.out)⟩
end Go.Proofs.Ytlfldoghomnbkaa.QVfs
