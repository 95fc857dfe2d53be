-- Made by a program of this session.
import Derived.Test.YtngcecmfgjgigaaQPermTextsx0
import Derived.Test.YtngcecmfgjgigaaQPermTextsx1
namespace Go.Proofs.Ytngcecmfgjgigaa.QPermTexts
open Go.RowKit Go.Proofs.YtngcecmfgjgigaaW.PrintWords Go.Proofs.YtngcecmfgjgigaaW.PrintLast Go.Proofs.YtngcecmfgjgigaaW.PrintMore
attribute [local go_sem] max2_int min2_int max_two min_two max_three min_three max_four min_four   -- for this text's walks alone
open Go.Proofs.Ytngcecmfgjgigaa.Ext
set_option linter.unusedVariables false
set_option linter.unusedSimpArgs false

/-! ### domesdayref07_Text: function 13 -/
mutual
def domesdayref07_Text.l0 : Nat → ByteArray → Int → Int → Int → Int → Int → Int → Int → Int → Int → Int → Int → Int → Int → Int → ByteArray → Option (ByteArray)
  | 0, _, _, _, _, _, _, _, _, _, _, _, _, _, _, _, _ => none
  | k + 1, x3, x4, x5, x110000, x110001, x110002, x110003, x110004, x110005, x110006, x110007, x110008, x110009, x110010, x110011, x110012 => if x5 ≥ 0 then ((domesdayref07_digit.f k x110003 x5).bind fun t112 => ((some (([(⟨#[45]⟩ : ByteArray), (⟨#[114]⟩ : ByteArray)] : List ByteArray) : List ByteArray)).bind fun y113 => (if 0 ≤ (wrap64 (Int.tdiv t112 4)) then (if (wrap64 (Int.tdiv t112 4)) < (y113.length : Int) then ((some (([(⟨#[45]⟩ : ByteArray), (⟨#[119]⟩ : ByteArray)] : List ByteArray) : List ByteArray)).bind fun y117 => (if 0 ≤ (Int.tmod (wrap64 (Int.tdiv t112 2)) 2) then (if (Int.tmod (wrap64 (Int.tdiv t112 2)) 2) < (y117.length : Int) then (if (rdOf ByteArray.empty y113 (wrap64 (Int.tdiv t112 4))).size + (rdOf ByteArray.empty y117 (Int.tmod (wrap64 (Int.tdiv t112 2)) 2)).size ≤ 9223372036854775807 then (if x3.size + ((rdOf ByteArray.empty y113 (wrap64 (Int.tdiv t112 4))).size + (rdOf ByteArray.empty y117 (Int.tmod (wrap64 (Int.tdiv t112 2)) 2)).size) ≤ 9223372036854775807 then (if x5 = 0 then (domesdayref07_Text.j1 k (x3 ++ ((rdOf ByteArray.empty y113 (wrap64 (Int.tdiv t112 4))) ++ (rdOf ByteArray.empty y117 (Int.tmod (wrap64 (Int.tdiv t112 2)) 2)))) x4 x5 t112 x110000 x110001 x110002 x110003 x110004 x110005 x110006 x110007 x110008 x110009 x110010 x110011 x110012 (⟨#[45]⟩ : ByteArray) (⟨#[120]⟩ : ByteArray) (⟨#[84]⟩ : ByteArray) (⟨#[116]⟩ : ByteArray)) else (domesdayref07_Text.j1 k (x3 ++ ((rdOf ByteArray.empty y113 (wrap64 (Int.tdiv t112 4))) ++ (rdOf ByteArray.empty y117 (Int.tmod (wrap64 (Int.tdiv t112 2)) 2)))) x4 x5 t112 x110000 x110001 x110002 x110003 x110004 x110005 x110006 x110007 x110008 x110009 x110010 x110011 x110012 (⟨#[45]⟩ : ByteArray) (⟨#[120]⟩ : ByteArray) (⟨#[83]⟩ : ByteArray) (⟨#[115]⟩ : ByteArray))) else (none)) else (none)) else (none)) else (none))) else (none)) else (none)))) else (some x3)
def domesdayref07_Text.j1 : Nat → ByteArray → Int → Int → Int → Int → Int → Int → Int → Int → Int → Int → Int → Int → Int → Int → Int → ByteArray → ByteArray → ByteArray → ByteArray → ByteArray → Option (ByteArray)
  | 0, _, _, _, _, _, _, _, _, _, _, _, _, _, _, _, _, _, _, _, _, _ => none
  | k + 1, x3, x4, x5, x6, x110000, x110001, x110002, x110003, x110004, x110005, x110006, x110007, x110008, x110009, x110010, x110011, x110012, x122000, x122001, x122002, x122003 => if x5 = 2 then (if (wrap64 (Int.tdiv x4 4)) = 1 then (domesdayref07_Text.j2 k x3 x4 x5 (Int.tmod x6 2) true x110000 x110001 x110002 x110003 x110004 x110005 x110006 x110007 x110008 x110009 x110010 x110011 x110012 x122000 x122001 x122002 x122003) else (if x5 = 1 then (if (Int.tmod (wrap64 (Int.tdiv x4 2)) 2) = 1 then (domesdayref07_Text.j2 k x3 x4 x5 (Int.tmod x6 2) true x110000 x110001 x110002 x110003 x110004 x110005 x110006 x110007 x110008 x110009 x110010 x110011 x110012 x122000 x122001 x122002 x122003) else (if x5 = 0 then (domesdayref07_Text.j2 k x3 x4 x5 (Int.tmod x6 2) ((Int.tmod x4 2) == 1) x110000 x110001 x110002 x110003 x110004 x110005 x110006 x110007 x110008 x110009 x110010 x110011 x110012 x122000 x122001 x122002 x122003) else (domesdayref07_Text.j2 k x3 x4 x5 (Int.tmod x6 2) false x110000 x110001 x110002 x110003 x110004 x110005 x110006 x110007 x110008 x110009 x110010 x110011 x110012 x122000 x122001 x122002 x122003))) else (if x5 = 0 then (domesdayref07_Text.j2 k x3 x4 x5 (Int.tmod x6 2) ((Int.tmod x4 2) == 1) x110000 x110001 x110002 x110003 x110004 x110005 x110006 x110007 x110008 x110009 x110010 x110011 x110012 x122000 x122001 x122002 x122003) else (domesdayref07_Text.j2 k x3 x4 x5 (Int.tmod x6 2) false x110000 x110001 x110002 x110003 x110004 x110005 x110006 x110007 x110008 x110009 x110010 x110011 x110012 x122000 x122001 x122002 x122003)))) else (if x5 = 1 then (if (Int.tmod (wrap64 (Int.tdiv x4 2)) 2) = 1 then (domesdayref07_Text.j2 k x3 x4 x5 (Int.tmod x6 2) true x110000 x110001 x110002 x110003 x110004 x110005 x110006 x110007 x110008 x110009 x110010 x110011 x110012 x122000 x122001 x122002 x122003) else (if x5 = 0 then (domesdayref07_Text.j2 k x3 x4 x5 (Int.tmod x6 2) ((Int.tmod x4 2) == 1) x110000 x110001 x110002 x110003 x110004 x110005 x110006 x110007 x110008 x110009 x110010 x110011 x110012 x122000 x122001 x122002 x122003) else (domesdayref07_Text.j2 k x3 x4 x5 (Int.tmod x6 2) false x110000 x110001 x110002 x110003 x110004 x110005 x110006 x110007 x110008 x110009 x110010 x110011 x110012 x122000 x122001 x122002 x122003))) else (if x5 = 0 then (domesdayref07_Text.j2 k x3 x4 x5 (Int.tmod x6 2) ((Int.tmod x4 2) == 1) x110000 x110001 x110002 x110003 x110004 x110005 x110006 x110007 x110008 x110009 x110010 x110011 x110012 x122000 x122001 x122002 x122003) else (domesdayref07_Text.j2 k x3 x4 x5 (Int.tmod x6 2) false x110000 x110001 x110002 x110003 x110004 x110005 x110006 x110007 x110008 x110009 x110010 x110011 x110012 x122000 x122001 x122002 x122003)))
def domesdayref07_Text.j2 : Nat → ByteArray → Int → Int → Int → Bool → Int → Int → Int → Int → Int → Int → Int → Int → Int → Int → Int → Int → ByteArray → ByteArray → ByteArray → ByteArray → ByteArray → Option (ByteArray)
  | 0, _, _, _, _, _, _, _, _, _, _, _, _, _, _, _, _, _, _, _, _, _, _ => none
  | k + 1, x3, x4, x5, x8, x67, x110000, x110001, x110002, x110003, x110004, x110005, x110006, x110007, x110008, x110009, x110010, x110011, x110012, x122000, x122001, x122002, x122003 => if x67 = true then (if 0 ≤ (wrap64 (x8 + 2)) then (if (wrap64 (x8 + 2)) < 4 then (if x3.size + (rdOf ByteArray.empty [x122000, x122001, x122002, x122003] (wrap64 (x8 + 2))).size ≤ 9223372036854775807 then (domesdayref07_Text.l0 k (x3 ++ (rdOf ByteArray.empty [x122000, x122001, x122002, x122003] (wrap64 (x8 + 2)))) x4 (wrap64 (x5 - 1)) x110000 x110001 x110002 x110003 x110004 x110005 x110006 x110007 x110008 x110009 x110010 x110011 x110012) else (none)) else (none)) else (none)) else (if 0 ≤ x8 then (if x8 < 4 then (if x3.size + (rdOf ByteArray.empty [x122000, x122001, x122002, x122003] x8).size ≤ 9223372036854775807 then (domesdayref07_Text.l0 k (x3 ++ (rdOf ByteArray.empty [x122000, x122001, x122002, x122003] x8)) x4 (wrap64 (x5 - 1)) x110000 x110001 x110002 x110003 x110004 x110005 x110006 x110007 x110008 x110009 x110010 x110011 x110012) else (none)) else (none)) else (none))
end
def domesdayref07_Text.f (k : Nat) (a0_0 : Int) (a0_1 : Int) (a0_2 : Int) (a0_3 : Int) (a0_4 : Int) (a0_5 : Int) (a0_6 : Int) (a0_7 : Int) (a0_8 : Int) (a0_9 : Int) (a0_10 : Int) (a0_11 : Int) (a0_12 : ByteArray) : Option (ByteArray) := (domesdayref07_Kind.f k a0_0 a0_1 a0_2 a0_3 a0_4 a0_5 a0_6 a0_7 a0_8 a0_9 a0_10 a0_11 a0_12).bind fun t110 => ((domesdayref07_digit.f k a0_3 3).bind fun t111 => (domesdayref07_Text.l0 k t110 t111 2 a0_0 a0_1 a0_2 a0_3 a0_4 a0_5 a0_6 a0_7 a0_8 a0_9 a0_10 a0_11 a0_12))
theorem domesdayref07_Text.mono_l : ∀ k, (∀ y0 y1 y2 y3 y4 y5 y6 y7 y8 y9 y10 y11 y12 y13 y14 y15, LeO (domesdayref07_Text.l0 k y0 y1 y2 y3 y4 y5 y6 y7 y8 y9 y10 y11 y12 y13 y14 y15) (domesdayref07_Text.l0 (k + 1) y0 y1 y2 y3 y4 y5 y6 y7 y8 y9 y10 y11 y12 y13 y14 y15)) ∧ (∀ y0 y1 y2 y3 y4 y5 y6 y7 y8 y9 y10 y11 y12 y13 y14 y15 y16 y17 y18 y19 y20, LeO (domesdayref07_Text.j1 k y0 y1 y2 y3 y4 y5 y6 y7 y8 y9 y10 y11 y12 y13 y14 y15 y16 y17 y18 y19 y20) (domesdayref07_Text.j1 (k + 1) y0 y1 y2 y3 y4 y5 y6 y7 y8 y9 y10 y11 y12 y13 y14 y15 y16 y17 y18 y19 y20)) ∧ (∀ y0 y1 y2 y3 y4 y5 y6 y7 y8 y9 y10 y11 y12 y13 y14 y15 y16 y17 y18 y19 y20 y21, LeO (domesdayref07_Text.j2 k y0 y1 y2 y3 y4 y5 y6 y7 y8 y9 y10 y11 y12 y13 y14 y15 y16 y17 y18 y19 y20 y21) (domesdayref07_Text.j2 (k + 1) y0 y1 y2 y3 y4 y5 y6 y7 y8 y9 y10 y11 y12 y13 y14 y15 y16 y17 y18 y19 y20 y21))
  | 0 => ⟨fun _ _ _ _ _ _ _ _ _ _ _ _ _ _ _ _ r h => by simp [domesdayref07_Text.l0] at h, fun _ _ _ _ _ _ _ _ _ _ _ _ _ _ _ _ _ _ _ _ _ r h => by simp [domesdayref07_Text.j1] at h, fun _ _ _ _ _ _ _ _ _ _ _ _ _ _ _ _ _ _ _ _ _ _ r h => by simp [domesdayref07_Text.j2] at h⟩
  | k + 1 => by
    obtain ⟨ih0, ih1, ih2⟩ := domesdayref07_Text.mono_l k
    refine ⟨?_, ?_, ?_⟩
    · intro y0 y1 y2 y3 y4 y5 y6 y7 y8 y9 y10 y11 y12 y13 y14 y15
      unfold domesdayref07_Text.l0
      repeat' first
      | (with_reducible exact ih0 _ _ _ _ _ _ _ _ _ _ _ _ _ _ _ _)
      | (with_reducible exact ih1 _ _ _ _ _ _ _ _ _ _ _ _ _ _ _ _ _ _ _ _ _)
      | (with_reducible exact ih2 _ _ _ _ _ _ _ _ _ _ _ _ _ _ _ _ _ _ _ _ _ _)
      | (with_reducible exact domesdayref07_Kind.mono _ _ _ _ _ _ _ _ _ _ _ _ _ _)
      | (with_reducible exact domesdayref07_digit.mono _ _ _)
      | (with_reducible exact LeO.refl _)
      | (with_reducible exact LeO.none _)
      | (with_reducible refine LeO.ite ?_ ?_)
      | (with_reducible refine LeO.bind ?_ (fun _ => ?_))
      | exact ih0 _ _ _ _ _ _ _ _ _ _ _ _ _ _ _ _
      | exact ih1 _ _ _ _ _ _ _ _ _ _ _ _ _ _ _ _ _ _ _ _ _
      | exact ih2 _ _ _ _ _ _ _ _ _ _ _ _ _ _ _ _ _ _ _ _ _ _
      | exact domesdayref07_Kind.mono _ _ _ _ _ _ _ _ _ _ _ _ _ _
      | exact domesdayref07_digit.mono _ _ _
      | exact LeO.none _
      | refine LeO.ite ?_ ?_
      | refine LeO.bind ?_ (fun _ => ?_)
    · intro y0 y1 y2 y3 y4 y5 y6 y7 y8 y9 y10 y11 y12 y13 y14 y15 y16 y17 y18 y19 y20
      unfold domesdayref07_Text.j1
      repeat' first
      | (with_reducible exact ih0 _ _ _ _ _ _ _ _ _ _ _ _ _ _ _ _)
      | (with_reducible exact ih1 _ _ _ _ _ _ _ _ _ _ _ _ _ _ _ _ _ _ _ _ _)
      | (with_reducible exact ih2 _ _ _ _ _ _ _ _ _ _ _ _ _ _ _ _ _ _ _ _ _ _)
      | (with_reducible exact domesdayref07_Kind.mono _ _ _ _ _ _ _ _ _ _ _ _ _ _)
      | (with_reducible exact domesdayref07_digit.mono _ _ _)
      | (with_reducible exact LeO.refl _)
      | (with_reducible exact LeO.none _)
      | (with_reducible refine LeO.ite ?_ ?_)
      | (with_reducible refine LeO.bind ?_ (fun _ => ?_))
      | exact ih0 _ _ _ _ _ _ _ _ _ _ _ _ _ _ _ _
      | exact ih1 _ _ _ _ _ _ _ _ _ _ _ _ _ _ _ _ _ _ _ _ _
      | exact ih2 _ _ _ _ _ _ _ _ _ _ _ _ _ _ _ _ _ _ _ _ _ _
      | exact domesdayref07_Kind.mono _ _ _ _ _ _ _ _ _ _ _ _ _ _
      | exact domesdayref07_digit.mono _ _ _
      | exact LeO.none _
      | refine LeO.ite ?_ ?_
      | refine LeO.bind ?_ (fun _ => ?_)
    · intro y0 y1 y2 y3 y4 y5 y6 y7 y8 y9 y10 y11 y12 y13 y14 y15 y16 y17 y18 y19 y20 y21
      unfold domesdayref07_Text.j2
      repeat' first
      | (with_reducible exact ih0 _ _ _ _ _ _ _ _ _ _ _ _ _ _ _ _)
      | (with_reducible exact ih1 _ _ _ _ _ _ _ _ _ _ _ _ _ _ _ _ _ _ _ _ _)
      | (with_reducible exact ih2 _ _ _ _ _ _ _ _ _ _ _ _ _ _ _ _ _ _ _ _ _ _)
      | (with_reducible exact domesdayref07_Kind.mono _ _ _ _ _ _ _ _ _ _ _ _ _ _)
      | (with_reducible exact domesdayref07_digit.mono _ _ _)
      | (with_reducible exact LeO.refl _)
      | (with_reducible exact LeO.none _)
      | (with_reducible refine LeO.ite ?_ ?_)
      | (with_reducible refine LeO.bind ?_ (fun _ => ?_))
      | exact ih0 _ _ _ _ _ _ _ _ _ _ _ _ _ _ _ _
      | exact ih1 _ _ _ _ _ _ _ _ _ _ _ _ _ _ _ _ _ _ _ _ _
      | exact ih2 _ _ _ _ _ _ _ _ _ _ _ _ _ _ _ _ _ _ _ _ _ _
      | exact domesdayref07_Kind.mono _ _ _ _ _ _ _ _ _ _ _ _ _ _
      | exact domesdayref07_digit.mono _ _ _
      | exact LeO.none _
      | refine LeO.ite ?_ ?_
      | refine LeO.bind ?_ (fun _ => ?_)
theorem domesdayref07_Text.mono : ∀ a0 a1 a2 a3 a4 a5 a6 a7 a8 a9 a10 a11 a12 k, LeO (domesdayref07_Text.f k a0 a1 a2 a3 a4 a5 a6 a7 a8 a9 a10 a11 a12) (domesdayref07_Text.f (k + 1) a0 a1 a2 a3 a4 a5 a6 a7 a8 a9 a10 a11 a12) := by
  intro a0 a1 a2 a3 a4 a5 a6 a7 a8 a9 a10 a11 a12 k
  obtain ⟨ih0, ih1, ih2⟩ := domesdayref07_Text.mono_l k
  unfold domesdayref07_Text.f
  repeat' first
      | (with_reducible exact ih0 _ _ _ _ _ _ _ _ _ _ _ _ _ _ _ _)
      | (with_reducible exact ih1 _ _ _ _ _ _ _ _ _ _ _ _ _ _ _ _ _ _ _ _ _)
      | (with_reducible exact ih2 _ _ _ _ _ _ _ _ _ _ _ _ _ _ _ _ _ _ _ _ _ _)
      | (with_reducible exact domesdayref07_Kind.mono _ _ _ _ _ _ _ _ _ _ _ _ _ _)
      | (with_reducible exact domesdayref07_digit.mono _ _ _)
      | (with_reducible exact LeO.refl _)
      | (with_reducible exact LeO.none _)
      | (with_reducible refine LeO.ite ?_ ?_)
      | (with_reducible refine LeO.bind ?_ (fun _ => ?_))
      | exact ih0 _ _ _ _ _ _ _ _ _ _ _ _ _ _ _ _
      | exact ih1 _ _ _ _ _ _ _ _ _ _ _ _ _ _ _ _ _ _ _ _ _
      | exact ih2 _ _ _ _ _ _ _ _ _ _ _ _ _ _ _ _ _ _ _ _ _ _
      | exact domesdayref07_Kind.mono _ _ _ _ _ _ _ _ _ _ _ _ _ _
      | exact domesdayref07_digit.mono _ _ _
      | exact LeO.none _
      | refine LeO.ite ?_ ?_
      | refine LeO.bind ?_ (fun _ => ?_)
def domesdayref07_Text.T7 : Bool × List (List Nat × List Nat) := (true, [([], []), ([], []), ([], []), ([2], [2]), ([1, 3], [1, 3]), ([4], [4]), ([], []), ([], []), ([7], [7]), ([8], [8]), ([6, 9], [6, 9]), ([10], [10]), ([5, 11], [5, 11]), ([0, 12], [0, 12]), ([13, 0, 1, 2, 3, 4, 5, 6, 7, 8, 9, 10, 11, 12, 13], [0, 13])])
def domesdayref07_Text.B7 : List Nat := [0, 0, 0, 4, 14, 30, 0, 0, 128, 384, 960, 1984, 4094, 8191, 16383]
theorem domesdayref07_Text.tab7 : rtab .any (opsOf Try.f13 7) = domesdayref07_Text.T7 := by kernel_rfl
theorem domesdayref07_Text.bits7 : waitsOk domesdayref07_Text.T7.2 domesdayref07_Text.B7 = true := by kernel_rfl
set_option maxHeartbeats 8000000 in
set_option maxRecDepth 100000 in
theorem domesdayref07_Text.calls (k : Nat) (a0_0 : Int) (a0_1 : Int) (a0_2 : Int) (a0_3 : Int) (a0_4 : Int) (a0_5 : Int) (a0_6 : Int) (a0_7 : Int) (a0_8 : Int) (a0_9 : Int) (a0_10 : Int) (a0_11 : Int) (a0_12 : ByteArray) (r : ByteArray) (w : World) (h : domesdayref07_Text.f k a0_0 a0_1 a0_2 a0_3 a0_4 a0_5 a0_6 a0_7 a0_8 a0_9 a0_10 a0_11 a0_12 = some r) :
    Calls Try.prog 13 #[.agg #[.int .i64 a0_0, .int .i64 a0_1, .int .i64 a0_2, .int .i64 a0_3, .int .i64 a0_4, .int .i64 a0_5, .int .i64 a0_6, .int .i64 a0_7, .int .i64 a0_8, .int .i64 a0_9, .int .i64 a0_10, .int .i64 a0_11, .string a0_12]] w fun e w' => e = .returned (.string r) ∧ Below w.heap.size w w' := by
  have hu24 := Try.underlying24
  have hu50 := Try.underlying50
  have HB := Aside0.mk (Below.refl w.heap.size w)
  have H : ((domesdayref07_Kind.f k a0_0 a0_1 a0_2 a0_3 a0_4 a0_5 a0_6 a0_7 a0_8 a0_9 a0_10 a0_11 a0_12).bind fun t110 => ((domesdayref07_digit.f k a0_3 3).bind fun t111 => (domesdayref07_Text.l0 k t110 t111 2 a0_0 a0_1 a0_2 a0_3 a0_4 a0_5 a0_6 a0_7 a0_8 a0_9 a0_10 a0_11 a0_12))) = some r := h
  clear h
  replace H := Option.bind_eq_some_iff.mp H
  obtain ⟨t110, A20, H⟩ := H
  replace H : ((domesdayref07_digit.f k a0_3 3).bind fun t111 => (domesdayref07_Text.l0 k t110 t111 2 a0_0 a0_1 a0_2 a0_3 a0_4 a0_5 a0_6 a0_7 a0_8 a0_9 a0_10 a0_11 a0_12)) = some r := H
  have A2 := Aside0.mk A20
  clear A20
  replace H := Option.bind_eq_some_iff.mp H
  obtain ⟨t111, A30, H⟩ := H
  replace H : (domesdayref07_Text.l0 k t110 t111 2 a0_0 a0_1 a0_2 a0_3 a0_4 a0_5 a0_6 a0_7 a0_8 a0_9 a0_10 a0_11 a0_12) = some r := H
  have A3 := Aside0.mk A30
  clear A30
  have H' := Aside0.mk H
  clear H
  go_enter Try.func13, Try.ntmps13
  go_wp2_with (first | ((with_reducible refine gate_dst (N := 1) rfl ?_); refine box_event ?hg (N := 1) ?hd (cs := #[.int .i64 a0_0, .int .i64 a0_1, .int .i64 a0_2, .int .i64 a0_3, .int .i64 a0_4, .int .i64 a0_5, .int .i64 a0_6, .int .i64 a0_7, .int .i64 a0_8, .int .i64 a0_9, .int .i64 a0_10, .int .i64 a0_11, .string a0_12]) (t := 24) ?hr ?_; (case hd => rfl); (case hg => rfl); (case hr => first | (go_simp; done) | (go_simp; rfl)); intro gb109 hg w4 hbox hb; have n0_ := Aside0.mk (below_step (by repeat (first | (with_reducible first | exact HB.out | apply below_alloc | apply pw_below_drewN | apply below_drew1) | exact HB.out)) hb); have n1_ := Aside0.mk (hbox); have n2_ := Aside0.mk ((by rw [hg]; exact (below_size (by repeat (first | (with_reducible first | exact HB.out | apply below_alloc | apply pw_below_drewN | apply below_drew1) | exact HB.out))) : w.heap.size ≤ gb109)); have n3_ := Aside0.mk ((by rw [hg]; exact (below_size (by repeat (first | (with_reducible first | exact HB.out | apply below_alloc | apply pw_below_drewN | apply below_drew1) | exact HB.out))) : w.heap.size ≤ gb109)); clear HB; have HB := n0_; have BK109 := n1_; have GW109 := n2_; have GE109 := n3_; clear n0_ n1_ n2_ n3_; clear hb hbox hg; have hcz5_0 : w4.cell? ⟨gb109, 0, none⟩ = some (.int .i64 a0_0) := (blk_cell BK109.out 0).trans rfl; have hcz5_1 : w4.cell? ⟨gb109, 1, none⟩ = some (.int .i64 a0_1) := (blk_cell BK109.out 1).trans rfl; have hcz5_2 : w4.cell? ⟨gb109, 2, none⟩ = some (.int .i64 a0_2) := (blk_cell BK109.out 2).trans rfl; have hcz5_3 : w4.cell? ⟨gb109, 3, none⟩ = some (.int .i64 a0_3) := (blk_cell BK109.out 3).trans rfl; have hcz5_4 : w4.cell? ⟨gb109, 4, none⟩ = some (.int .i64 a0_4) := (blk_cell BK109.out 4).trans rfl; have hcz5_5 : w4.cell? ⟨gb109, 5, none⟩ = some (.int .i64 a0_5) := (blk_cell BK109.out 5).trans rfl; have hcz5_6 : w4.cell? ⟨gb109, 6, none⟩ = some (.int .i64 a0_6) := (blk_cell BK109.out 6).trans rfl; have hcz5_7 : w4.cell? ⟨gb109, 7, none⟩ = some (.int .i64 a0_7) := (blk_cell BK109.out 7).trans rfl; have hcz5_8 : w4.cell? ⟨gb109, 8, none⟩ = some (.int .i64 a0_8) := (blk_cell BK109.out 8).trans rfl; have hcz5_9 : w4.cell? ⟨gb109, 9, none⟩ = some (.int .i64 a0_9) := (blk_cell BK109.out 9).trans rfl; have hcz5_10 : w4.cell? ⟨gb109, 10, none⟩ = some (.int .i64 a0_10) := (blk_cell BK109.out 10).trans rfl; have hcz5_11 : w4.cell? ⟨gb109, 11, none⟩ = some (.int .i64 a0_11) := (blk_cell BK109.out 11).trans rfl; have hcz5_12 : w4.cell? ⟨gb109, 12, none⟩ = some (.string a0_12) := (blk_cell BK109.out 12).trans rfl; have hfz5_0 := blk_frozen BK109.out 0; have hfz5_1 := blk_frozen BK109.out 1; have hfz5_2 := blk_frozen BK109.out 2; have hfz5_3 := blk_frozen BK109.out 3; have hfz5_4 := blk_frozen BK109.out 4; have hfz5_5 := blk_frozen BK109.out 5; have hfz5_6 := blk_frozen BK109.out 6; have hfz5_7 := blk_frozen BK109.out 7; have hfz5_8 := blk_frozen BK109.out 8; have hfz5_9 := blk_frozen BK109.out 9; have hfz5_10 := blk_frozen BK109.out 10; have hfz5_11 := blk_frozen BK109.out 11; have hfz5_12 := blk_frozen BK109.out 12) | ((with_reducible refine gate_callee (f := 15) rfl ?_); refine goesL_ (some 10) rfl rfl Try.func15 (by kernel_rfl) rfl #[.agg #[.int .i64 a0_0, .int .i64 a0_1, .int .i64 a0_2, .int .i64 a0_3, .int .i64 a0_4, .int .i64 a0_5, .int .i64 a0_6, .int .i64 a0_7, .int .i64 a0_8, .int .i64 a0_9, .int .i64 a0_10, .int .i64 a0_11, .string a0_12]] rfl (by (try simp only [List.map_toArray, List.map_cons, List.map_nil]); first | done | rfl | (simp only [List.length_drop, List.length_take]; rfl)) ?_; (with_reducible refine (domesdayref07_Kind.calls k a0_0 a0_1 a0_2 a0_3 a0_4 a0_5 a0_6 a0_7 a0_8 a0_9 a0_10 a0_11 a0_12 t110 _ A2.out).mono ?_); rintro e w6 ⟨rfl, hb⟩; refine ⟨_, rfl, ?_⟩; have n0_ := Aside0.mk (blk_below (g := gb109) (o := .cells #[.int .i64 a0_0, .int .i64 a0_1, .int .i64 a0_2, .int .i64 a0_3, .int .i64 a0_4, .int .i64 a0_5, .int .i64 a0_6, .int .i64 a0_7, .int .i64 a0_8, .int .i64 a0_9, .int .i64 a0_10, .int .i64 a0_11, .string a0_12] 24 (0, 0)) (by (with_reducible repeat (first | refine blk_drewN ?_ _ | refine blk_drew ?_ | refine blk_alloc ?_ _)); exact BK109.out) hb); have n1_ := Aside0.mk (below_step (by repeat (first | (with_reducible first | exact HB.out | apply below_alloc | apply pw_below_drewN | apply below_drew1 | refine below_set ?_ GE109.out) | exact HB.out)) hb); clear BK109; clear HB; have BK109 := n0_; have HB := n1_; clear n0_ n1_; (try clear hb); (try clear hb2); (try clear hk); (try clear hi); have hcz7_0 : w6.cell? ⟨gb109, 0, none⟩ = some (.int .i64 a0_0) := (blk_cell BK109.out 0).trans rfl; have hcz7_1 : w6.cell? ⟨gb109, 1, none⟩ = some (.int .i64 a0_1) := (blk_cell BK109.out 1).trans rfl; have hcz7_2 : w6.cell? ⟨gb109, 2, none⟩ = some (.int .i64 a0_2) := (blk_cell BK109.out 2).trans rfl; have hcz7_3 : w6.cell? ⟨gb109, 3, none⟩ = some (.int .i64 a0_3) := (blk_cell BK109.out 3).trans rfl; have hcz7_4 : w6.cell? ⟨gb109, 4, none⟩ = some (.int .i64 a0_4) := (blk_cell BK109.out 4).trans rfl; have hcz7_5 : w6.cell? ⟨gb109, 5, none⟩ = some (.int .i64 a0_5) := (blk_cell BK109.out 5).trans rfl; have hcz7_6 : w6.cell? ⟨gb109, 6, none⟩ = some (.int .i64 a0_6) := (blk_cell BK109.out 6).trans rfl; have hcz7_7 : w6.cell? ⟨gb109, 7, none⟩ = some (.int .i64 a0_7) := (blk_cell BK109.out 7).trans rfl; have hcz7_8 : w6.cell? ⟨gb109, 8, none⟩ = some (.int .i64 a0_8) := (blk_cell BK109.out 8).trans rfl; have hcz7_9 : w6.cell? ⟨gb109, 9, none⟩ = some (.int .i64 a0_9) := (blk_cell BK109.out 9).trans rfl; have hcz7_10 : w6.cell? ⟨gb109, 10, none⟩ = some (.int .i64 a0_10) := (blk_cell BK109.out 10).trans rfl; have hcz7_11 : w6.cell? ⟨gb109, 11, none⟩ = some (.int .i64 a0_11) := (blk_cell BK109.out 11).trans rfl; have hcz7_12 : w6.cell? ⟨gb109, 12, none⟩ = some (.string a0_12) := (blk_cell BK109.out 12).trans rfl; have hfz7_0 := blk_frozen BK109.out 0; have hfz7_1 := blk_frozen BK109.out 1; have hfz7_2 := blk_frozen BK109.out 2; have hfz7_3 := blk_frozen BK109.out 3; have hfz7_4 := blk_frozen BK109.out 4; have hfz7_5 := blk_frozen BK109.out 5; have hfz7_6 := blk_frozen BK109.out 6; have hfz7_7 := blk_frozen BK109.out 7; have hfz7_8 := blk_frozen BK109.out 8; have hfz7_9 := blk_frozen BK109.out 9; have hfz7_10 := blk_frozen BK109.out 10; have hfz7_11 := blk_frozen BK109.out 11; have hfz7_12 := blk_frozen BK109.out 12) | ((with_reducible refine gate_callee (f := 31) rfl ?_); refine goesL_ (some 13) rfl rfl Try.func31 (by kernel_rfl) rfl #[.int .i64 a0_3, .int .i64 3] rfl (by (try simp only [List.map_toArray, List.map_cons, List.map_nil]); first | done | rfl | (simp only [List.length_drop, List.length_take]; rfl)) ?_; (with_reducible refine (domesdayref07_digit.calls k a0_3 3 t111 _ A3.out).mono ?_); rintro e w' ⟨rfl, ⟨nd, rfl⟩⟩; refine ⟨_, rfl, ?_⟩))
  go_loopg [3, 5] k (fun kq v3 v5 w' => ∃ (x3_1 : ByteArray) (x5_1 : Int), v3 = .string x3_1 ∧ v5 = .int .i64 x5_1 ∧ Aside0 (domesdayref07_Text.l0 kq x3_1 t111 x5_1 a0_0 a0_1 a0_2 a0_3 a0_4 a0_5 a0_6 a0_7 a0_8 a0_9 a0_10 a0_11 a0_12 = some r) ∧ Aside0 (kq ≤ k) ∧ Aside0 (w'.heap[gb109]? = some (.cells #[.int .i64 a0_0, .int .i64 a0_1, .int .i64 a0_2, .int .i64 a0_3, .int .i64 a0_4, .int .i64 a0_5, .int .i64 a0_6, .int .i64 a0_7, .int .i64 a0_8, .int .i64 a0_9, .int .i64 a0_10, .int .i64 a0_11, .string a0_12] 24 (0, 0))) ∧ Aside0 (Below w.heap.size w w'))
  case atStart => exact ⟨(t110), (2), (by first | rfl | (simp; done) | (simp [*]; done)), (by first | rfl | (simp; done) | (simp [*]; done)), H', ⟨Nat.le_refl _⟩, ⟨by (with_reducible repeat (first | refine blk_drewN ?_ _ | refine blk_drew ?_ | refine blk_alloc ?_ _)); exact BK109.out⟩, ⟨by repeat (first | (with_reducible first | exact HB.out | apply below_alloc | apply pw_below_drewN | apply below_drew1 | refine below_set ?_ GE109.out) | exact HB.out)⟩⟩
  case round =>
    clear H'
    try clear c1
    try clear p2
    try clear c3
    try clear hcz5_0
    try clear hcz5_1
    try clear hcz5_10
    try clear hcz5_11
    try clear hcz5_12
    try clear hcz5_2
    try clear hcz5_3
    try clear hcz5_4
    try clear hcz5_5
    try clear hcz5_6
    try clear hcz5_7
    try clear hcz5_8
    try clear hcz5_9
    try clear hcz7_0
    try clear hcz7_1
    try clear hcz7_10
    try clear hcz7_11
    try clear hcz7_12
    try clear hcz7_2
    try clear hcz7_3
    try clear hcz7_4
    try clear hcz7_5
    try clear hcz7_6
    try clear hcz7_7
    try clear hcz7_8
    try clear hcz7_9
    try clear hfz5_0
    try clear hfz5_1
    try clear hfz5_10
    try clear hfz5_11
    try clear hfz5_12
    try clear hfz5_2
    try clear hfz5_3
    try clear hfz5_4
    try clear hfz5_5
    try clear hfz5_6
    try clear hfz5_7
    try clear hfz5_8
    try clear hfz5_9
    try clear hfz7_0
    try clear hfz7_1
    try clear hfz7_10
    try clear hfz7_11
    try clear hfz7_12
    try clear hfz7_2
    try clear hfz7_3
    try clear hfz7_4
    try clear hfz7_5
    try clear hfz7_6
    try clear hfz7_7
    try clear hfz7_8
    try clear hfz7_9
    obtain ⟨x3_1, x5_1, rfl, rfl, HA, HK1, BK109, HB⟩ := hrel
    cases gk with
    | zero => exact absurd HA.out (by simp [domesdayref07_Text.l0])
    | succ k1 =>
      have H := HA.out
      clear HA
      simp only [domesdayref07_Text.l0] at H
      by_cases c8 : x5_1 ≥ 0
      · rw [if_pos c8] at H
        have c8b0 : decide (0 ≤ x5_1) = true := decide_eq_true c8
        clear c8
        replace H := Option.bind_eq_some_iff.mp H
        obtain ⟨t112, A90, H⟩ := H
        replace H : ((some (([(⟨#[45]⟩ : ByteArray), (⟨#[114]⟩ : ByteArray)] : List ByteArray) : List ByteArray)).bind fun y113 => (if 0 ≤ (wrap64 (Int.tdiv t112 4)) then (if (wrap64 (Int.tdiv t112 4)) < (y113.length : Int) then ((some (([(⟨#[45]⟩ : ByteArray), (⟨#[119]⟩ : ByteArray)] : List ByteArray) : List ByteArray)).bind fun y117 => (if 0 ≤ (Int.tmod (wrap64 (Int.tdiv t112 2)) 2) then (if (Int.tmod (wrap64 (Int.tdiv t112 2)) 2) < (y117.length : Int) then (if (rdOf ByteArray.empty y113 (wrap64 (Int.tdiv t112 4))).size + (rdOf ByteArray.empty y117 (Int.tmod (wrap64 (Int.tdiv t112 2)) 2)).size ≤ 9223372036854775807 then (if x3_1.size + ((rdOf ByteArray.empty y113 (wrap64 (Int.tdiv t112 4))).size + (rdOf ByteArray.empty y117 (Int.tmod (wrap64 (Int.tdiv t112 2)) 2)).size) ≤ 9223372036854775807 then (if x5_1 = 0 then (domesdayref07_Text.j1 k1 (x3_1 ++ ((rdOf ByteArray.empty y113 (wrap64 (Int.tdiv t112 4))) ++ (rdOf ByteArray.empty y117 (Int.tmod (wrap64 (Int.tdiv t112 2)) 2)))) t111 x5_1 t112 a0_0 a0_1 a0_2 a0_3 a0_4 a0_5 a0_6 a0_7 a0_8 a0_9 a0_10 a0_11 a0_12 (⟨#[45]⟩ : ByteArray) (⟨#[120]⟩ : ByteArray) (⟨#[84]⟩ : ByteArray) (⟨#[116]⟩ : ByteArray)) else (domesdayref07_Text.j1 k1 (x3_1 ++ ((rdOf ByteArray.empty y113 (wrap64 (Int.tdiv t112 4))) ++ (rdOf ByteArray.empty y117 (Int.tmod (wrap64 (Int.tdiv t112 2)) 2)))) t111 x5_1 t112 a0_0 a0_1 a0_2 a0_3 a0_4 a0_5 a0_6 a0_7 a0_8 a0_9 a0_10 a0_11 a0_12 (⟨#[45]⟩ : ByteArray) (⟨#[120]⟩ : ByteArray) (⟨#[83]⟩ : ByteArray) (⟨#[115]⟩ : ByteArray))) else (none)) else (none)) else (none)) else (none))) else (none)) else (none))) = some r := H
        have A9 := Aside0.mk A90
        clear A90
        obtain ⟨y113, hy113⟩ : ∃ y_ : List ByteArray, y_ = (([(⟨#[45]⟩ : ByteArray), (⟨#[114]⟩ : ByteArray)] : List ByteArray)) := ⟨_, rfl⟩
        replace H : (if 0 ≤ (wrap64 (Int.tdiv t112 4)) then (if (wrap64 (Int.tdiv t112 4)) < (y113.length : Int) then ((some (([(⟨#[45]⟩ : ByteArray), (⟨#[119]⟩ : ByteArray)] : List ByteArray) : List ByteArray)).bind fun y117 => (if 0 ≤ (Int.tmod (wrap64 (Int.tdiv t112 2)) 2) then (if (Int.tmod (wrap64 (Int.tdiv t112 2)) 2) < (y117.length : Int) then (if (rdOf ByteArray.empty y113 (wrap64 (Int.tdiv t112 4))).size + (rdOf ByteArray.empty y117 (Int.tmod (wrap64 (Int.tdiv t112 2)) 2)).size ≤ 9223372036854775807 then (if x3_1.size + ((rdOf ByteArray.empty y113 (wrap64 (Int.tdiv t112 4))).size + (rdOf ByteArray.empty y117 (Int.tmod (wrap64 (Int.tdiv t112 2)) 2)).size) ≤ 9223372036854775807 then (if x5_1 = 0 then (domesdayref07_Text.j1 k1 (x3_1 ++ ((rdOf ByteArray.empty y113 (wrap64 (Int.tdiv t112 4))) ++ (rdOf ByteArray.empty y117 (Int.tmod (wrap64 (Int.tdiv t112 2)) 2)))) t111 x5_1 t112 a0_0 a0_1 a0_2 a0_3 a0_4 a0_5 a0_6 a0_7 a0_8 a0_9 a0_10 a0_11 a0_12 (⟨#[45]⟩ : ByteArray) (⟨#[120]⟩ : ByteArray) (⟨#[84]⟩ : ByteArray) (⟨#[116]⟩ : ByteArray)) else (domesdayref07_Text.j1 k1 (x3_1 ++ ((rdOf ByteArray.empty y113 (wrap64 (Int.tdiv t112 4))) ++ (rdOf ByteArray.empty y117 (Int.tmod (wrap64 (Int.tdiv t112 2)) 2)))) t111 x5_1 t112 a0_0 a0_1 a0_2 a0_3 a0_4 a0_5 a0_6 a0_7 a0_8 a0_9 a0_10 a0_11 a0_12 (⟨#[45]⟩ : ByteArray) (⟨#[120]⟩ : ByteArray) (⟨#[83]⟩ : ByteArray) (⟨#[115]⟩ : ByteArray))) else (none)) else (none)) else (none)) else (none))) else (none)) else (none)) = some r := by first | (rw [hy113]; with_reducible exact H) | (have H2_ := (Option.bind_some _ _).symm.trans H; rw [hy113]; with_reducible exact H2_) | (have H2_ := (Option.bind_some _ _).symm.trans H; with_reducible exact H2_) | with_reducible exact H | (rw [hy113]; exact H) | exact H
        have Ny113 := Aside0.mk hy113
        clear hy113
        obtain ⟨ji10, hji10⟩ : ∃ j_ : Int, (wrap64 (Int.tdiv t112 4)) = j_ := ⟨_, rfl⟩
        replace H : (if 0 ≤ (ji10) then (if (ji10) < (y113.length : Int) then ((some (([(⟨#[45]⟩ : ByteArray), (⟨#[119]⟩ : ByteArray)] : List ByteArray) : List ByteArray)).bind fun y117 => (if 0 ≤ (Int.tmod (wrap64 (Int.tdiv t112 2)) 2) then (if (Int.tmod (wrap64 (Int.tdiv t112 2)) 2) < (y117.length : Int) then (if (rdOf ByteArray.empty y113 (ji10)).size + (rdOf ByteArray.empty y117 (Int.tmod (wrap64 (Int.tdiv t112 2)) 2)).size ≤ 9223372036854775807 then (if x3_1.size + ((rdOf ByteArray.empty y113 (ji10)).size + (rdOf ByteArray.empty y117 (Int.tmod (wrap64 (Int.tdiv t112 2)) 2)).size) ≤ 9223372036854775807 then (if x5_1 = 0 then (domesdayref07_Text.j1 k1 (x3_1 ++ ((rdOf ByteArray.empty y113 (ji10)) ++ (rdOf ByteArray.empty y117 (Int.tmod (wrap64 (Int.tdiv t112 2)) 2)))) t111 x5_1 t112 a0_0 a0_1 a0_2 a0_3 a0_4 a0_5 a0_6 a0_7 a0_8 a0_9 a0_10 a0_11 a0_12 (⟨#[45]⟩ : ByteArray) (⟨#[120]⟩ : ByteArray) (⟨#[84]⟩ : ByteArray) (⟨#[116]⟩ : ByteArray)) else (domesdayref07_Text.j1 k1 (x3_1 ++ ((rdOf ByteArray.empty y113 (ji10)) ++ (rdOf ByteArray.empty y117 (Int.tmod (wrap64 (Int.tdiv t112 2)) 2)))) t111 x5_1 t112 a0_0 a0_1 a0_2 a0_3 a0_4 a0_5 a0_6 a0_7 a0_8 a0_9 a0_10 a0_11 a0_12 (⟨#[45]⟩ : ByteArray) (⟨#[120]⟩ : ByteArray) (⟨#[83]⟩ : ByteArray) (⟨#[115]⟩ : ByteArray))) else (none)) else (none)) else (none)) else (none))) else (none)) else (none)) = some r := by first | (rw [hji10] at H; exact H) | (simp only [hji10] at H ⊢; exact H)
        (try rw [hji10] at A9)
        have hji10w : (IntKind.i64.wrap (Int.tdiv t112 4)) = ji10 := (i64_w _).trans hji10
        by_cases c11 : 0 ≤ (ji10)
        · rw [if_pos c11] at H
          have c11b0 : decide (0 ≤ (ji10)) = true := decide_eq_true c11
          clear c11
          by_cases c12 : (ji10) < (y113.length : Int)
          · rw [if_pos c12] at H
            have c12b0 : decide ((ji10) < (y113.length : Int)) = true := decide_eq_true c12
            clear c12
            obtain ⟨y117, hy117⟩ : ∃ y_ : List ByteArray, y_ = (([(⟨#[45]⟩ : ByteArray), (⟨#[119]⟩ : ByteArray)] : List ByteArray)) := ⟨_, rfl⟩
            replace H : (if 0 ≤ (Int.tmod (wrap64 (Int.tdiv t112 2)) 2) then (if (Int.tmod (wrap64 (Int.tdiv t112 2)) 2) < (y117.length : Int) then (if (rdOf ByteArray.empty y113 (ji10)).size + (rdOf ByteArray.empty y117 (Int.tmod (wrap64 (Int.tdiv t112 2)) 2)).size ≤ 9223372036854775807 then (if x3_1.size + ((rdOf ByteArray.empty y113 (ji10)).size + (rdOf ByteArray.empty y117 (Int.tmod (wrap64 (Int.tdiv t112 2)) 2)).size) ≤ 9223372036854775807 then (if x5_1 = 0 then (domesdayref07_Text.j1 k1 (x3_1 ++ ((rdOf ByteArray.empty y113 (ji10)) ++ (rdOf ByteArray.empty y117 (Int.tmod (wrap64 (Int.tdiv t112 2)) 2)))) t111 x5_1 t112 a0_0 a0_1 a0_2 a0_3 a0_4 a0_5 a0_6 a0_7 a0_8 a0_9 a0_10 a0_11 a0_12 (⟨#[45]⟩ : ByteArray) (⟨#[120]⟩ : ByteArray) (⟨#[84]⟩ : ByteArray) (⟨#[116]⟩ : ByteArray)) else (domesdayref07_Text.j1 k1 (x3_1 ++ ((rdOf ByteArray.empty y113 (ji10)) ++ (rdOf ByteArray.empty y117 (Int.tmod (wrap64 (Int.tdiv t112 2)) 2)))) t111 x5_1 t112 a0_0 a0_1 a0_2 a0_3 a0_4 a0_5 a0_6 a0_7 a0_8 a0_9 a0_10 a0_11 a0_12 (⟨#[45]⟩ : ByteArray) (⟨#[120]⟩ : ByteArray) (⟨#[83]⟩ : ByteArray) (⟨#[115]⟩ : ByteArray))) else (none)) else (none)) else (none)) else (none)) = some r := by first | (rw [hy117]; with_reducible exact H) | (have H2_ := (Option.bind_some _ _).symm.trans H; rw [hy117]; with_reducible exact H2_) | (have H2_ := (Option.bind_some _ _).symm.trans H; with_reducible exact H2_) | with_reducible exact H | (rw [hy117]; exact H) | exact H
            have Ny117 := Aside0.mk hy117
            clear hy117
            obtain ⟨ji13, hji13⟩ : ∃ j_ : Int, (Int.tmod (wrap64 (Int.tdiv t112 2)) 2) = j_ := ⟨_, rfl⟩
            replace H : (if 0 ≤ (ji13) then (if (ji13) < (y117.length : Int) then (if (rdOf ByteArray.empty y113 (ji10)).size + (rdOf ByteArray.empty y117 (ji13)).size ≤ 9223372036854775807 then (if x3_1.size + ((rdOf ByteArray.empty y113 (ji10)).size + (rdOf ByteArray.empty y117 (ji13)).size) ≤ 9223372036854775807 then (if x5_1 = 0 then (domesdayref07_Text.j1 k1 (x3_1 ++ ((rdOf ByteArray.empty y113 (ji10)) ++ (rdOf ByteArray.empty y117 (ji13)))) t111 x5_1 t112 a0_0 a0_1 a0_2 a0_3 a0_4 a0_5 a0_6 a0_7 a0_8 a0_9 a0_10 a0_11 a0_12 (⟨#[45]⟩ : ByteArray) (⟨#[120]⟩ : ByteArray) (⟨#[84]⟩ : ByteArray) (⟨#[116]⟩ : ByteArray)) else (domesdayref07_Text.j1 k1 (x3_1 ++ ((rdOf ByteArray.empty y113 (ji10)) ++ (rdOf ByteArray.empty y117 (ji13)))) t111 x5_1 t112 a0_0 a0_1 a0_2 a0_3 a0_4 a0_5 a0_6 a0_7 a0_8 a0_9 a0_10 a0_11 a0_12 (⟨#[45]⟩ : ByteArray) (⟨#[120]⟩ : ByteArray) (⟨#[83]⟩ : ByteArray) (⟨#[115]⟩ : ByteArray))) else (none)) else (none)) else (none)) else (none)) = some r := by first | (rw [hji13] at H; exact H) | (simp only [hji13] at H ⊢; exact H)
            (try rw [hji13] at A9)
            by_cases c14 : 0 ≤ (ji13)
            · rw [if_pos c14] at H
              have c14b0 : decide (0 ≤ (ji13)) = true := decide_eq_true c14
              clear c14
              by_cases c15 : (ji13) < (y117.length : Int)
              · rw [if_pos c15] at H
                have c15b0 : decide ((ji13) < (y117.length : Int)) = true := decide_eq_true c15
                clear c15
                by_cases c16 : (rdOf ByteArray.empty y113 (ji10)).size + (rdOf ByteArray.empty y117 (ji13)).size ≤ 9223372036854775807
                · rw [if_pos c16] at H
                  have c16b0 := eq_true c16
                  have c16b1 : decide ((rdOf ByteArray.empty y113 (ji10)).size + (rdOf ByteArray.empty y117 (ji13)).size ≤ 9223372036854775807) = true := decide_eq_true c16
                  try have c16b2 : (9223372036854775807 < (rdOf ByteArray.empty y113 (ji10)).size + (rdOf ByteArray.empty y117 (ji13)).size) = False := eq_false (Nat.not_lt.2 c16)
                  by_cases c17 : x3_1.size + ((rdOf ByteArray.empty y113 (ji10)).size + (rdOf ByteArray.empty y117 (ji13)).size) ≤ 9223372036854775807
                  · rw [if_pos c17] at H
                    have c17b0 := eq_true c17
                    have c17b1 : decide (x3_1.size + ((rdOf ByteArray.empty y113 (ji10)).size + (rdOf ByteArray.empty y117 (ji13)).size) ≤ 9223372036854775807) = true := decide_eq_true c17
                    try have c17b2 : (9223372036854775807 < x3_1.size + ((rdOf ByteArray.empty y113 (ji10)).size + (rdOf ByteArray.empty y117 (ji13)).size)) = False := eq_false (Nat.not_lt.2 c17)
                    have HC18 := Aside0.mk H
                    clear H
                    have hcz19_0 : wr.cell? ⟨gb109, 0, none⟩ = some (.int .i64 a0_0) := (blk_cell BK109.out 0).trans rfl
                    have hcz19_1 : wr.cell? ⟨gb109, 1, none⟩ = some (.int .i64 a0_1) := (blk_cell BK109.out 1).trans rfl
                    have hcz19_2 : wr.cell? ⟨gb109, 2, none⟩ = some (.int .i64 a0_2) := (blk_cell BK109.out 2).trans rfl
                    have hcz19_3 : wr.cell? ⟨gb109, 3, none⟩ = some (.int .i64 a0_3) := (blk_cell BK109.out 3).trans rfl
                    have hcz19_4 : wr.cell? ⟨gb109, 4, none⟩ = some (.int .i64 a0_4) := (blk_cell BK109.out 4).trans rfl
                    have hcz19_5 : wr.cell? ⟨gb109, 5, none⟩ = some (.int .i64 a0_5) := (blk_cell BK109.out 5).trans rfl
                    have hcz19_6 : wr.cell? ⟨gb109, 6, none⟩ = some (.int .i64 a0_6) := (blk_cell BK109.out 6).trans rfl
                    have hcz19_7 : wr.cell? ⟨gb109, 7, none⟩ = some (.int .i64 a0_7) := (blk_cell BK109.out 7).trans rfl
                    have hcz19_8 : wr.cell? ⟨gb109, 8, none⟩ = some (.int .i64 a0_8) := (blk_cell BK109.out 8).trans rfl
                    have hcz19_9 : wr.cell? ⟨gb109, 9, none⟩ = some (.int .i64 a0_9) := (blk_cell BK109.out 9).trans rfl
                    have hcz19_10 : wr.cell? ⟨gb109, 10, none⟩ = some (.int .i64 a0_10) := (blk_cell BK109.out 10).trans rfl
                    have hcz19_11 : wr.cell? ⟨gb109, 11, none⟩ = some (.int .i64 a0_11) := (blk_cell BK109.out 11).trans rfl
                    have hcz19_12 : wr.cell? ⟨gb109, 12, none⟩ = some (.string a0_12) := (blk_cell BK109.out 12).trans rfl
                    have hfz19_0 := blk_frozen BK109.out 0
                    have hfz19_1 := blk_frozen BK109.out 1
                    have hfz19_2 := blk_frozen BK109.out 2
                    have hfz19_3 := blk_frozen BK109.out 3
                    have hfz19_4 := blk_frozen BK109.out 4
                    have hfz19_5 := blk_frozen BK109.out 5
                    have hfz19_6 := blk_frozen BK109.out 6
                    have hfz19_7 := blk_frozen BK109.out 7
                    have hfz19_8 := blk_frozen BK109.out 8
                    have hfz19_9 := blk_frozen BK109.out 9
                    have hfz19_10 := blk_frozen BK109.out 10
                    have hfz19_11 := blk_frozen BK109.out 11
                    have hfz19_12 := blk_frozen BK109.out 12
                    try go_wp2_with (first | ((with_reducible refine gate_callee (f := 31) rfl ?_); refine goesL_ (some 21) rfl rfl Try.func31 (by kernel_rfl) rfl #[.int .i64 a0_3, .int .i64 x5_1] rfl (by (try simp only [List.map_toArray, List.map_cons, List.map_nil]); first | done | rfl | (simp only [List.length_drop, List.length_take]; rfl)) ?_; (with_reducible refine (domesdayref07_digit.calls k1 a0_3 x5_1 t112 _ A9.out).mono ?_); rintro e w' ⟨rfl, ⟨nd, rfl⟩⟩; refine ⟨_, rfl, ?_⟩; (try (rw [drewN_self wr]; generalize hq_ : World.drewN wr _ = wr; have n0_ : Aside0 (wr.heap[gb109]? = some (.cells #[.int .i64 a0_0, .int .i64 a0_1, .int .i64 a0_2, .int .i64 a0_3, .int .i64 a0_4, .int .i64 a0_5, .int .i64 a0_6, .int .i64 a0_7, .int .i64 a0_8, .int .i64 a0_9, .int .i64 a0_10, .int .i64 a0_11, .string a0_12] 24 (0, 0))) := ⟨by rw [← hq_]; exact (by (with_reducible repeat (first | refine blk_drewN ?_ _ | refine blk_drew ?_ | refine blk_alloc ?_ _)); exact BK109.out)⟩; have n1_ : Aside0 (Below w.heap.size w wr) := ⟨by rw [← hq_]; exact (by repeat (first | (with_reducible first | exact HB.out | apply below_alloc | apply pw_below_drewN | apply below_drew1 | refine below_set ?_ GE109.out) | exact HB.out))⟩; clear BK109 HB hq_; have BK109 := n0_; have HB := n1_; clear n0_ n1_))))
                    have pi116 : (0 ≤ ((ji10) : Int)) = True := eq_true (of_decide_eq_true (by first | (with_reducible assumption) | assumption))
                    have qi116 : ((ji10) < (y113.length : Int)) = True := eq_true (of_decide_eq_true (by first | (with_reducible assumption) | assumption))
                    have pi120 : (0 ≤ ((ji13) : Int)) = True := eq_true (of_decide_eq_true (by first | (with_reducible assumption) | assumption))
                    have qi120 : ((ji13) < (y117.length : Int)) = True := eq_true (of_decide_eq_true (by first | (with_reducible assumption) | assumption))
                    have n0_ := Aside0.mk (blk_drew BK109.out)
                    have n1_ := Aside0.mk (below_drew1 HB.out)
                    clear BK109
                    clear HB
                    have BK109 := n0_
                    have HB := n1_
                    clear n0_ n1_
                    refine start_ (n := 15) (S := fun w' => True) (ds := []) #[false, false, false, false, false, false, false, false, false, false, false, false, false, false, false] (by kernel_rfl) rfl rfl trivial (fun hHeld => ?_); refine with_tabW domesdayref07_Text.tab7 domesdayref07_Text.bits7 (fun HT_ HW_ => ?_)
                    generalize wr.drew = w20 at BK109 HB hHeld ⊢
                    refine pure_ (i := 0) (N := some 22) (v := ?_) (a' := ?_) #[true, false, false, false, false, false, false, false, false, false, false, false, false, false, false] rfl rfl (any_of HT_.out (by kernel_rfl)) (fun _ _ _ h => h) (Or.inl ⟨by rfl, ?_⟩) ?_ ?_
                    rotate_left
                    · intro w'
                      go_simp
                      with_reducible rfl
                    rotate_left
                    · simp only [Act.put, List.setIfInBounds_toArray, List.set_cons_zero, List.set_cons_succ, i64_w, i32_w]
                      rfl
                    refine pure_ (i := 2) (N := some 24) (v := ?_) (a' := ?_) #[true, false, true, false, false, false, false, false, false, false, false, false, false, false, false] rfl rfl (any_of HT_.out (by kernel_rfl)) (fun _ _ _ h => h) (Or.inl ⟨by rfl, ?_⟩) ?_ ?_
                    rotate_left
                    · intro w'
                      go_simp
                      with_reducible rfl
                    rotate_left
                    · simp only [Act.put, List.setIfInBounds_toArray, List.set_cons_zero, List.set_cons_succ, i64_w, i32_w]
                      rfl
                    refine pure_ (i := 7) (N := some 29) (v := ?_) (a' := ?_) #[true, false, true, false, false, false, false, true, false, false, false, false, false, false, false] rfl rfl (any_of HT_.out (by kernel_rfl)) (fun _ _ _ h => h) (Or.inl ⟨by rfl, ?_⟩) ?_ ?_
                    rotate_left
                    · intro w'
                      go_simp
                      with_reducible rfl
                    rotate_left
                    · simp only [Act.put, List.setIfInBounds_toArray, List.set_cons_zero, List.set_cons_succ, i64_w, i32_w]
                      rfl
                    refine inv_at [1, 3, 4, 5, 6, 8, 9, 10, 11, 12, 13, 14] (fun a0_ b a w' => ∃ (v114 : Value) (adz_v114 : Addr) (v118 : Value) (adz_v118 : Addr) (m4_ : Value) (m10_ : Value), a = putSel a0_ b [(1, 23, v114), (3, 25, .int .i64 ji10), (4, 26, m4_), (5, 27, .string (rdOf ByteArray.empty y113 (ji10))), (6, 28, v118), (8, 30, .int .i64 (wrap64 (Int.tdiv t112 2))), (9, 31, .int .i64 ji13), (10, 32, m10_), (11, 33, .string (rdOf ByteArray.empty y117 (ji13))), (12, 34, .string ((rdOf ByteArray.empty y113 (ji10)) ++ (rdOf ByteArray.empty y117 (ji13)))), (13, 35, .string (x3_1 ++ ((rdOf ByteArray.empty y113 (ji10)) ++ (rdOf ByteArray.empty y117 (ji13))))), (14, 3, .string (x3_1 ++ ((rdOf ByteArray.empty y113 (ji10)) ++ (rdOf ByteArray.empty y117 (ji13)))))] ∧ (w'.heap[gb109]? = some (.cells #[.int .i64 a0_0, .int .i64 a0_1, .int .i64 a0_2, .int .i64 a0_3, .int .i64 a0_4, .int .i64 a0_5, .int .i64 a0_6, .int .i64 a0_7, .int .i64 a0_8, .int .i64 a0_9, .int .i64 a0_10, .int .i64 a0_11, .string a0_12] 24 (0, 0))) ∧ (Below w.heap.size w w') ∧ (b 1 = true → Kd.R Kd.string 9 w' w.heap.size (fun _ => True) v114 y113) ∧ (b 1 = true → ∃ c_, (v114 : Value) = .slice (some adz_v114) y113.length c_) ∧ (b 6 = true → Kd.R Kd.string 9 w' w.heap.size (fun _ => True) v118 y117) ∧ (b 6 = true → ∃ c_, (v118 : Value) = .slice (some adz_v118) y117.length c_) ∧ (b 4 = true → (m4_ : Value) = .pointer (some (adz_v114.add ((ji10)).toNat))) ∧ (b 10 = true → (m10_ : Value) = .pointer (some (adz_v118.add ((ji13)).toNat)))) HT_.out HW_.out (by kernel_rfl) (by kernel_rfl) ?_ ?_ ?_
                    · exact ⟨.bool false, ⟨0, 0, none⟩, .bool false, ⟨0, 0, none⟩, .bool false, .bool false, by simp only [putSel, Bool.false_eq_true, if_false], BK109.out, HB.out, fun h_ => absurd h_ (by decide), fun h_ => absurd h_ (by decide), fun h_ => absurd h_ (by decide), fun h_ => absurd h_ (by decide), fun h_ => absurd h_ (by decide), fun h_ => absurd h_ (by decide)⟩
                    · skip
                      clear BK109 HB
                      refine steps_cons ?_ ?_
                      · rintro b a w' ⟨v114, adz_v114, v118, adz_v118, m4_, m10_, ha, Q_BK109, Q_HB, Q_HO115, Q_HA_HO115, Q_HO119, Q_HA_HO119, Q_X4_, Q_X10_⟩ hb_ hon hoff
                        refine ⟨_, rfl, fun K hK => ?_⟩
                        replace ha := Aside0.mk ha
                        have BK109 := Aside0.mk Q_BK109
                        have HB := Aside0.mk Q_HB
                        refine Kd.R_lit_step Kd.string _ 9 ?hg (N := 23) ?hd (xs := ([(⟨#[45]⟩ : ByteArray), (⟨#[114]⟩ : ByteArray)] : List ByteArray)) (inner := [.string (⟨#[45]⟩ : ByteArray), .string (⟨#[114]⟩ : ByteArray)]) (ok := fun _ => True) (okp := fun _ => True) ?hr ?hp (fun _ hk => hk) trivial (Below.refl _ _) (Nat.le_refl _) (by simp) ?_; (case hd => rfl); (case hg => rfl); (case hr => first | (go_simp; done) | (go_simp; rfl)); (case hp => exact (Reps.one (show Kd.M Kd.string _ _ _ (⟨#[45]⟩ : ByteArray) [.string (⟨#[45]⟩ : ByteArray)] from rfl) (Reps.one (show Kd.M Kd.string _ _ _ (⟨#[114]⟩ : ByteArray) [.string (⟨#[114]⟩ : ByteArray)] from rfl) (Reps.none _ _))))
                        intro v114 w21 ho22 hb hg_ hnew_
                        clear hg_ hnew_
                        (first | rw [← Ny113.out] at ho22 | (simp only [Int.reduceToNat] at ho22; rw [← Ny113.out] at ho22))
                        have n0_ := Aside0.mk (Kd.R_lower ho22 (below_size (by repeat (first | (with_reducible first | exact HB.out | apply below_alloc | apply pw_below_drewN | apply below_drew1 | refine below_set ?_ GE109.out) | exact HB.out))))
                        have n1_ := Aside0.mk (blk_below (g := gb109) (o := .cells #[.int .i64 a0_0, .int .i64 a0_1, .int .i64 a0_2, .int .i64 a0_3, .int .i64 a0_4, .int .i64 a0_5, .int .i64 a0_6, .int .i64 a0_7, .int .i64 a0_8, .int .i64 a0_9, .int .i64 a0_10, .int .i64 a0_11, .string a0_12] 24 (0, 0)) (by (with_reducible repeat (first | refine blk_drewN ?_ _ | refine blk_drew ?_ | refine blk_alloc ?_ _)); exact BK109.out) hb)
                        have n2_ := Aside0.mk (below_step (by repeat (first | (with_reducible first | exact HB.out | apply below_alloc | apply pw_below_drewN | apply below_drew1 | refine below_set ?_ GE109.out) | exact HB.out)) hb)
                        have z_HO119 := fun (h0_ : b 6 = true) => (show Kd.R Kd.string 9 w21 w.heap.size (fun _ => True) v118 y117 from by first | exact (Kd.R_elder' (by (with_reducible repeat (first | apply Kd.R_alloc | apply Kd.R_drewN | apply Kd.R_drew)); exact (Q_HO119 h0_)) (Kd.R_base ho22) hb) | exact Kd.R_mono (Kd.R_elder' (by (with_reducible repeat (first | apply Kd.R_alloc | apply Kd.R_drewN | apply Kd.R_drew)); exact (Q_HO119 h0_)) (Kd.R_base ho22) hb) (fun _ h_ => by first | trivial | exact h_ | exact h_.1))
                        clear BK109
                        clear HB
                        have HO115 := n0_
                        have BK109 := n1_
                        have HB := n2_
                        clear n0_ n1_ n2_
                        clear hb ho22
                        obtain ⟨Ao23, co23, eo23⟩ := Kd.R_slice HO115.out
                        subst eo23
                        obtain ⟨ado23, fo23, _⟩ := Kd.at_string (Kd.R_reads' HO115.out).2.2 0 (by decide) (by rw [Ny113.out]; simp)
                        cases fo23
                        refine hK.out _ _ ⟨.slice (some ado23) y113.length co23, ado23, v118, adz_v118, m4_, m10_, (by rw [ha.out]; exact putSel_upk 0 hb_ rfl rfl rfl), (by (with_reducible repeat (first | refine blk_drewN ?_ _ | refine blk_drew ?_ | refine blk_alloc ?_ _)); exact BK109.out), (by repeat (first | (with_reducible first | exact HB.out | apply below_alloc | apply pw_below_drewN | apply below_drew1 | refine below_set ?_ GE109.out) | exact HB.out)), fun _ => (by (with_reducible repeat (first | apply Kd.R_alloc | apply Kd.R_drewN | apply Kd.R_drew)); exact HO115.out), fun _ => ⟨_, rfl⟩, z_HO119, Q_HA_HO119, fun h0_ => absurd ((hoff 4 (by kernel_rfl)).symm.trans h0_) (by decide), Q_X10_⟩
                      refine steps_cons ?_ ?_
                      · rintro b a w' ⟨v114, adz_v114, v118, adz_v118, m4_, m10_, ha, Q_BK109, Q_HB, Q_HO115, Q_HA_HO115, Q_HO119, Q_HA_HO119, Q_X4_, Q_X10_⟩ hb_ hon hoff
                        refine ⟨_, rfl, fun K hK => ?_⟩
                        have e24 : a.tmps[24]? = some (.int .i64 t112) := by rw [ha]; exact (putSel_off rfl).trans rfl
                        replace ha := Aside0.mk ha
                        have BK109 := Aside0.mk Q_BK109
                        have HB := Aside0.mk Q_HB
                        refine value_ (w1 := w') (v := .int .i64 ji10) (by rfl) rfl ?_ ?_
                        · go_simp
                          (try simp only [i64_w])
                          try rfl
                        refine hK.out _ _ ⟨v114, adz_v114, v118, adz_v118, m4_, m10_, (by rw [ha.out]; exact putSel_upk 1 hb_ rfl rfl rfl), Q_BK109, Q_HB, Q_HO115, Q_HA_HO115, Q_HO119, Q_HA_HO119, fun h0_ => absurd ((hoff 4 (by kernel_rfl)).symm.trans h0_) (by decide), Q_X10_⟩
                      refine steps_cons ?_ ?_
                      · rintro b a w' ⟨v114, adz_v114, v118, adz_v118, m4_, m10_, ha, Q_BK109, Q_HB, Q_HO115, Q_HA_HO115, Q_HO119, Q_HA_HO119, Q_X4_, Q_X10_⟩ hb_ hon hoff
                        refine ⟨_, rfl, fun K hK => ?_⟩
                        have e23 : a.tmps[23]? = some (v114) := by rw [ha]; exact putSel_on (e := (1, 23, v114)) 0 rfl rfl (hon 1 (by kernel_rfl)) rfl
                        have e25 : a.tmps[25]? = some (.int .i64 ji10) := by rw [ha]; exact putSel_on (e := (3, 25, .int .i64 ji10)) 1 rfl rfl (hon 3 (by kernel_rfl)) rfl
                        replace ha := Aside0.mk ha
                        have BK109 := Aside0.mk Q_BK109
                        have HB := Aside0.mk Q_HB
                        have HO115 := Aside0.mk (Q_HO115 (hon 1 (by kernel_rfl)))
                        have HA_HO115 := Aside0.mk (Q_HA_HO115 (hon 1 (by kernel_rfl)))
                        obtain ⟨c_, hv_⟩ := HA_HO115.out
                        rw [hv_] at e23
                        refine value_ (w1 := w') (v := .pointer (some (adz_v114.add ((ji10)).toNat))) (by rfl) rfl ?_ ?_
                        · go_simp
                          (try simp only [i64_w])
                          try rfl
                        refine hK.out _ _ ⟨v114, adz_v114, v118, adz_v118, (.pointer (some (adz_v114.add ((ji10)).toNat))), m10_, (by rw [ha.out]; exact putSel_upk 2 hb_ rfl rfl rfl), Q_BK109, Q_HB, Q_HO115, Q_HA_HO115, Q_HO119, Q_HA_HO119, fun _ => rfl, Q_X10_⟩
                      refine steps_cons ?_ ?_
                      · rintro b a w' ⟨v114, adz_v114, v118, adz_v118, m4_, m10_, ha, Q_BK109, Q_HB, Q_HO115, Q_HA_HO115, Q_HO119, Q_HA_HO119, Q_X4_, Q_X10_⟩ hb_ hon hoff
                        refine ⟨_, rfl, fun K hK => ?_⟩
                        have e26 : a.tmps[26]? = some (m4_) := by rw [ha]; exact putSel_on (e := (4, 26, m4_)) 2 rfl rfl (hon 4 (by kernel_rfl)) rfl
                        rw [Q_X4_ (hon 4 (by kernel_rfl))] at e26
                        replace ha := Aside0.mk ha
                        have BK109 := Aside0.mk Q_BK109
                        have HB := Aside0.mk Q_HB
                        have HO115 := Aside0.mk (Q_HO115 (hon 1 (by kernel_rfl)))
                        have HA_HO115 := Aside0.mk (Q_HA_HO115 (hon 1 (by kernel_rfl)))
                        obtain ⟨c_, hv_⟩ := HA_HO115.out
                        have hF_ := HO115.out
                        rw [hv_] at hF_
                        obtain ⟨ad_, ea_, hx_⟩ := Kd.at_string (Kd.R_reads' hF_).2.2 (ji10) (of_eq_true pi116) (of_eq_true qi116)
                        cases ea_
                        refine value_ (w1 := w') (v := .string (rdOf ByteArray.empty y113 (ji10))) (by rfl) rfl ?_ ?_
                        · go_simp
                          (try simp only [i64_w])
                          try rfl
                        refine hK.out _ _ ⟨v114, adz_v114, v118, adz_v118, m4_, m10_, (by rw [ha.out]; exact putSel_upk 3 hb_ rfl rfl rfl), Q_BK109, Q_HB, Q_HO115, Q_HA_HO115, Q_HO119, Q_HA_HO119, Q_X4_, Q_X10_⟩
                      refine steps_cons ?_ ?_
                      · rintro b a w' ⟨v114, adz_v114, v118, adz_v118, m4_, m10_, ha, Q_BK109, Q_HB, Q_HO115, Q_HA_HO115, Q_HO119, Q_HA_HO119, Q_X4_, Q_X10_⟩ hb_ hon hoff
                        refine ⟨_, rfl, fun K hK => ?_⟩
                        replace ha := Aside0.mk ha
                        have BK109 := Aside0.mk Q_BK109
                        have HB := Aside0.mk Q_HB
                        refine Kd.R_lit_step Kd.string _ 9 ?hg (N := 28) ?hd (xs := ([(⟨#[45]⟩ : ByteArray), (⟨#[119]⟩ : ByteArray)] : List ByteArray)) (inner := [.string (⟨#[45]⟩ : ByteArray), .string (⟨#[119]⟩ : ByteArray)]) (ok := fun _ => True) (okp := fun _ => True) ?hr ?hp (fun _ hk => hk) trivial (Below.refl _ _) (Nat.le_refl _) (by simp) ?_; (case hd => rfl); (case hg => rfl); (case hr => first | (go_simp; done) | (go_simp; rfl)); (case hp => exact (Reps.one (show Kd.M Kd.string _ _ _ (⟨#[45]⟩ : ByteArray) [.string (⟨#[45]⟩ : ByteArray)] from rfl) (Reps.one (show Kd.M Kd.string _ _ _ (⟨#[119]⟩ : ByteArray) [.string (⟨#[119]⟩ : ByteArray)] from rfl) (Reps.none _ _))))
                        intro v118 w21 ho22 hb hg_ hnew_
                        clear hg_ hnew_
                        (first | rw [← Ny117.out] at ho22 | (simp only [Int.reduceToNat] at ho22; rw [← Ny117.out] at ho22))
                        have n0_ := Aside0.mk (Kd.R_lower ho22 (below_size (by repeat (first | (with_reducible first | exact HB.out | apply below_alloc | apply pw_below_drewN | apply below_drew1 | refine below_set ?_ GE109.out) | exact HB.out))))
                        have n1_ := Aside0.mk (blk_below (g := gb109) (o := .cells #[.int .i64 a0_0, .int .i64 a0_1, .int .i64 a0_2, .int .i64 a0_3, .int .i64 a0_4, .int .i64 a0_5, .int .i64 a0_6, .int .i64 a0_7, .int .i64 a0_8, .int .i64 a0_9, .int .i64 a0_10, .int .i64 a0_11, .string a0_12] 24 (0, 0)) (by (with_reducible repeat (first | refine blk_drewN ?_ _ | refine blk_drew ?_ | refine blk_alloc ?_ _)); exact BK109.out) hb)
                        have n2_ := Aside0.mk (below_step (by repeat (first | (with_reducible first | exact HB.out | apply below_alloc | apply pw_below_drewN | apply below_drew1 | refine below_set ?_ GE109.out) | exact HB.out)) hb)
                        have z_HO115 := fun (h0_ : b 1 = true) => (show Kd.R Kd.string 9 w21 w.heap.size (fun _ => True) v114 y113 from by first | exact (Kd.R_elder' (by (with_reducible repeat (first | apply Kd.R_alloc | apply Kd.R_drewN | apply Kd.R_drew)); exact (Q_HO115 h0_)) (Kd.R_base ho22) hb) | exact Kd.R_mono (Kd.R_elder' (by (with_reducible repeat (first | apply Kd.R_alloc | apply Kd.R_drewN | apply Kd.R_drew)); exact (Q_HO115 h0_)) (Kd.R_base ho22) hb) (fun _ h_ => by first | trivial | exact h_ | exact h_.1))
                        clear BK109
                        clear HB
                        have HO119 := n0_
                        have BK109 := n1_
                        have HB := n2_
                        clear n0_ n1_ n2_
                        clear hb ho22
                        obtain ⟨Ao23, co23, eo23⟩ := Kd.R_slice HO119.out
                        subst eo23
                        obtain ⟨ado23, fo23, _⟩ := Kd.at_string (Kd.R_reads' HO119.out).2.2 0 (by decide) (by rw [Ny117.out]; simp)
                        cases fo23
                        refine hK.out _ _ ⟨v114, adz_v114, .slice (some ado23) y117.length co23, ado23, m4_, m10_, (by rw [ha.out]; exact putSel_upk 4 hb_ rfl rfl rfl), (by (with_reducible repeat (first | refine blk_drewN ?_ _ | refine blk_drew ?_ | refine blk_alloc ?_ _)); exact BK109.out), (by repeat (first | (with_reducible first | exact HB.out | apply below_alloc | apply pw_below_drewN | apply below_drew1 | refine below_set ?_ GE109.out) | exact HB.out)), z_HO115, Q_HA_HO115, fun _ => (by (with_reducible repeat (first | apply Kd.R_alloc | apply Kd.R_drewN | apply Kd.R_drew)); exact HO119.out), fun _ => ⟨_, rfl⟩, Q_X4_, fun h0_ => absurd ((hoff 10 (by kernel_rfl)).symm.trans h0_) (by decide)⟩
                      refine steps_cons ?_ ?_
                      · rintro b a w' ⟨v114, adz_v114, v118, adz_v118, m4_, m10_, ha, Q_BK109, Q_HB, Q_HO115, Q_HA_HO115, Q_HO119, Q_HA_HO119, Q_X4_, Q_X10_⟩ hb_ hon hoff
                        refine ⟨_, rfl, fun K hK => ?_⟩
                        have e29 : a.tmps[29]? = some (.int .i64 t112) := by rw [ha]; exact (putSel_off rfl).trans rfl
                        replace ha := Aside0.mk ha
                        have BK109 := Aside0.mk Q_BK109
                        have HB := Aside0.mk Q_HB
                        refine value_ (w1 := w') (v := .int .i64 (wrap64 (Int.tdiv t112 2))) (by rfl) rfl ?_ ?_
                        · go_simp
                          (try simp only [i64_w])
                          try rfl
                        refine hK.out _ _ ⟨v114, adz_v114, v118, adz_v118, m4_, m10_, (by rw [ha.out]; exact putSel_upk 5 hb_ rfl rfl rfl), Q_BK109, Q_HB, Q_HO115, Q_HA_HO115, Q_HO119, Q_HA_HO119, Q_X4_, fun h0_ => absurd ((hoff 10 (by kernel_rfl)).symm.trans h0_) (by decide)⟩
                      refine steps_cons ?_ ?_
                      · rintro b a w' ⟨v114, adz_v114, v118, adz_v118, m4_, m10_, ha, Q_BK109, Q_HB, Q_HO115, Q_HA_HO115, Q_HO119, Q_HA_HO119, Q_X4_, Q_X10_⟩ hb_ hon hoff
                        refine ⟨_, rfl, fun K hK => ?_⟩
                        have e30 : a.tmps[30]? = some (.int .i64 (wrap64 (Int.tdiv t112 2))) := by rw [ha]; exact putSel_on (e := (8, 30, .int .i64 (wrap64 (Int.tdiv t112 2)))) 5 rfl rfl (hon 8 (by kernel_rfl)) rfl
                        replace ha := Aside0.mk ha
                        have BK109 := Aside0.mk Q_BK109
                        have HB := Aside0.mk Q_HB
                        refine value_ (w1 := w') (v := .int .i64 ji13) (by rfl) rfl ?_ ?_
                        · go_simp
                          (try simp only [i64_w])
                          try rfl
                        refine hK.out _ _ ⟨v114, adz_v114, v118, adz_v118, m4_, m10_, (by rw [ha.out]; exact putSel_upk 6 hb_ rfl rfl rfl), Q_BK109, Q_HB, Q_HO115, Q_HA_HO115, Q_HO119, Q_HA_HO119, Q_X4_, fun h0_ => absurd ((hoff 10 (by kernel_rfl)).symm.trans h0_) (by decide)⟩
                      refine steps_cons ?_ ?_
                      · rintro b a w' ⟨v114, adz_v114, v118, adz_v118, m4_, m10_, ha, Q_BK109, Q_HB, Q_HO115, Q_HA_HO115, Q_HO119, Q_HA_HO119, Q_X4_, Q_X10_⟩ hb_ hon hoff
                        refine ⟨_, rfl, fun K hK => ?_⟩
                        have e28 : a.tmps[28]? = some (v118) := by rw [ha]; exact putSel_on (e := (6, 28, v118)) 4 rfl rfl (hon 6 (by kernel_rfl)) rfl
                        have e31 : a.tmps[31]? = some (.int .i64 ji13) := by rw [ha]; exact putSel_on (e := (9, 31, .int .i64 ji13)) 6 rfl rfl (hon 9 (by kernel_rfl)) rfl
                        replace ha := Aside0.mk ha
                        have BK109 := Aside0.mk Q_BK109
                        have HB := Aside0.mk Q_HB
                        have HO119 := Aside0.mk (Q_HO119 (hon 6 (by kernel_rfl)))
                        have HA_HO119 := Aside0.mk (Q_HA_HO119 (hon 6 (by kernel_rfl)))
                        obtain ⟨c_, hv_⟩ := HA_HO119.out
                        rw [hv_] at e28
                        refine value_ (w1 := w') (v := .pointer (some (adz_v118.add ((ji13)).toNat))) (by rfl) rfl ?_ ?_
                        · go_simp
                          (try simp only [i64_w])
                          try rfl
                        refine hK.out _ _ ⟨v114, adz_v114, v118, adz_v118, m4_, (.pointer (some (adz_v118.add ((ji13)).toNat))), (by rw [ha.out]; exact putSel_upk 7 hb_ rfl rfl rfl), Q_BK109, Q_HB, Q_HO115, Q_HA_HO115, Q_HO119, Q_HA_HO119, Q_X4_, fun _ => rfl⟩
                      refine steps_cons ?_ ?_
                      · rintro b a w' ⟨v114, adz_v114, v118, adz_v118, m4_, m10_, ha, Q_BK109, Q_HB, Q_HO115, Q_HA_HO115, Q_HO119, Q_HA_HO119, Q_X4_, Q_X10_⟩ hb_ hon hoff
                        refine ⟨_, rfl, fun K hK => ?_⟩
                        have e32 : a.tmps[32]? = some (m10_) := by rw [ha]; exact putSel_on (e := (10, 32, m10_)) 7 rfl rfl (hon 10 (by kernel_rfl)) rfl
                        rw [Q_X10_ (hon 10 (by kernel_rfl))] at e32
                        replace ha := Aside0.mk ha
                        have BK109 := Aside0.mk Q_BK109
                        have HB := Aside0.mk Q_HB
                        have HO119 := Aside0.mk (Q_HO119 (hon 6 (by kernel_rfl)))
                        have HA_HO119 := Aside0.mk (Q_HA_HO119 (hon 6 (by kernel_rfl)))
                        obtain ⟨c_, hv_⟩ := HA_HO119.out
                        have hF_ := HO119.out
                        rw [hv_] at hF_
                        obtain ⟨ad_, ea_, hx_⟩ := Kd.at_string (Kd.R_reads' hF_).2.2 (ji13) (of_eq_true pi120) (of_eq_true qi120)
                        cases ea_
                        refine value_ (w1 := w') (v := .string (rdOf ByteArray.empty y117 (ji13))) (by rfl) rfl ?_ ?_
                        · go_simp
                          (try simp only [i64_w])
                          try rfl
                        refine hK.out _ _ ⟨v114, adz_v114, v118, adz_v118, m4_, m10_, (by rw [ha.out]; exact putSel_upk 8 hb_ rfl rfl rfl), Q_BK109, Q_HB, Q_HO115, Q_HA_HO115, Q_HO119, Q_HA_HO119, Q_X4_, Q_X10_⟩
                      refine steps_cons ?_ ?_
                      · rintro b a w' ⟨v114, adz_v114, v118, adz_v118, m4_, m10_, ha, Q_BK109, Q_HB, Q_HO115, Q_HA_HO115, Q_HO119, Q_HA_HO119, Q_X4_, Q_X10_⟩ hb_ hon hoff
                        refine ⟨_, rfl, fun K hK => ?_⟩
                        have e27 : a.tmps[27]? = some (.string (rdOf ByteArray.empty y113 (ji10))) := by rw [ha]; exact putSel_on (e := (5, 27, .string (rdOf ByteArray.empty y113 (ji10)))) 3 rfl rfl (hon 5 (by kernel_rfl)) rfl
                        have e33 : a.tmps[33]? = some (.string (rdOf ByteArray.empty y117 (ji13))) := by rw [ha]; exact putSel_on (e := (11, 33, .string (rdOf ByteArray.empty y117 (ji13)))) 8 rfl rfl (hon 11 (by kernel_rfl)) rfl
                        replace ha := Aside0.mk ha
                        have BK109 := Aside0.mk Q_BK109
                        have HB := Aside0.mk Q_HB
                        have HO115 := Aside0.mk (Q_HO115 (hon 1 (by kernel_rfl)))
                        have HA_HO115 := Aside0.mk (Q_HA_HO115 (hon 1 (by kernel_rfl)))
                        have HO119 := Aside0.mk (Q_HO119 (hon 6 (by kernel_rfl)))
                        have HA_HO119 := Aside0.mk (Q_HA_HO119 (hon 6 (by kernel_rfl)))
                        refine value_ (w1 := w') (v := .string ((rdOf ByteArray.empty y113 (ji10)) ++ (rdOf ByteArray.empty y117 (ji13)))) (by rfl) rfl ?_ ?_
                        · go_simp
                          (try simp only [i64_w])
                          try rfl
                        refine hK.out _ _ ⟨v114, adz_v114, v118, adz_v118, m4_, m10_, (by rw [ha.out]; exact putSel_upk 9 hb_ rfl rfl rfl), Q_BK109, Q_HB, Q_HO115, Q_HA_HO115, Q_HO119, Q_HA_HO119, Q_X4_, Q_X10_⟩
                      refine steps_cons ?_ ?_
                      · rintro b a w' ⟨v114, adz_v114, v118, adz_v118, m4_, m10_, ha, Q_BK109, Q_HB, Q_HO115, Q_HA_HO115, Q_HO119, Q_HA_HO119, Q_X4_, Q_X10_⟩ hb_ hon hoff
                        refine ⟨_, rfl, fun K hK => ?_⟩
                        have e22 : a.tmps[22]? = some (.string x3_1) := by rw [ha]; exact (putSel_off rfl).trans rfl
                        have e34 : a.tmps[34]? = some (.string ((rdOf ByteArray.empty y113 (ji10)) ++ (rdOf ByteArray.empty y117 (ji13)))) := by rw [ha]; exact putSel_on (e := (12, 34, .string ((rdOf ByteArray.empty y113 (ji10)) ++ (rdOf ByteArray.empty y117 (ji13))))) 9 rfl rfl (hon 12 (by kernel_rfl)) rfl
                        replace ha := Aside0.mk ha
                        have BK109 := Aside0.mk Q_BK109
                        have HB := Aside0.mk Q_HB
                        have HO115 := Aside0.mk (Q_HO115 (hon 1 (by kernel_rfl)))
                        have HA_HO115 := Aside0.mk (Q_HA_HO115 (hon 1 (by kernel_rfl)))
                        have HO119 := Aside0.mk (Q_HO119 (hon 6 (by kernel_rfl)))
                        have HA_HO119 := Aside0.mk (Q_HA_HO119 (hon 6 (by kernel_rfl)))
                        refine value_ (w1 := w') (v := .string (x3_1 ++ ((rdOf ByteArray.empty y113 (ji10)) ++ (rdOf ByteArray.empty y117 (ji13))))) (by rfl) rfl ?_ ?_
                        · go_simp
                          (try simp only [i64_w])
                          try rfl
                        refine hK.out _ _ ⟨v114, adz_v114, v118, adz_v118, m4_, m10_, (by rw [ha.out]; exact putSel_upk 10 hb_ rfl rfl rfl), Q_BK109, Q_HB, Q_HO115, Q_HA_HO115, Q_HO119, Q_HA_HO119, Q_X4_, Q_X10_⟩
                      refine steps_cons ?_ ?_
                      · rintro b a w' ⟨v114, adz_v114, v118, adz_v118, m4_, m10_, ha, Q_BK109, Q_HB, Q_HO115, Q_HA_HO115, Q_HO119, Q_HA_HO119, Q_X4_, Q_X10_⟩ hb_ hon hoff
                        refine ⟨_, rfl, fun K hK => ?_⟩
                        have e35 : a.tmps[35]? = some (.string (x3_1 ++ ((rdOf ByteArray.empty y113 (ji10)) ++ (rdOf ByteArray.empty y117 (ji13))))) := by rw [ha]; exact putSel_on (e := (13, 35, .string (x3_1 ++ ((rdOf ByteArray.empty y113 (ji10)) ++ (rdOf ByteArray.empty y117 (ji13)))))) 10 rfl rfl (hon 13 (by kernel_rfl)) rfl
                        replace ha := Aside0.mk ha
                        have BK109 := Aside0.mk Q_BK109
                        have HB := Aside0.mk Q_HB
                        have HO115 := Aside0.mk (Q_HO115 (hon 1 (by kernel_rfl)))
                        have HA_HO115 := Aside0.mk (Q_HA_HO115 (hon 1 (by kernel_rfl)))
                        have HO119 := Aside0.mk (Q_HO119 (hon 6 (by kernel_rfl)))
                        have HA_HO119 := Aside0.mk (Q_HA_HO119 (hon 6 (by kernel_rfl)))
                        refine value_ (w1 := w') (v := .string (x3_1 ++ ((rdOf ByteArray.empty y113 (ji10)) ++ (rdOf ByteArray.empty y117 (ji13))))) (by rfl) rfl ?_ ?_
                        · go_simp
                          (try simp only [i64_w])
                          try rfl
                        refine hK.out _ _ ⟨v114, adz_v114, v118, adz_v118, m4_, m10_, (by rw [ha.out]; exact putSel_upk 11 hb_ rfl rfl rfl), Q_BK109, Q_HB, Q_HO115, Q_HA_HO115, Q_HO119, Q_HA_HO119, Q_X4_, Q_X10_⟩
                      exact steps_nil
                    rintro b a w27 hall ⟨v114, adz_v114, v118, adz_v118, m4_, m10_, ha, Q_BK109, Q_HB, Q_HO115, Q_HA_HO115, Q_HO119, Q_HA_HO119, Q_X4_, Q_X10_⟩
                    clear BK109 HB
                    have hb1_ := hall 1 (by kernel_rfl)
                    have hb3_ := hall 3 (by kernel_rfl)
                    have hb4_ := hall 4 (by kernel_rfl)
                    have hb5_ := hall 5 (by kernel_rfl)
                    have hb6_ := hall 6 (by kernel_rfl)
                    have hb8_ := hall 8 (by kernel_rfl)
                    have hb9_ := hall 9 (by kernel_rfl)
                    have hb10_ := hall 10 (by kernel_rfl)
                    have hb11_ := hall 11 (by kernel_rfl)
                    have hb12_ := hall 12 (by kernel_rfl)
                    have hb13_ := hall 13 (by kernel_rfl)
                    have hb14_ := hall 14 (by kernel_rfl)
                    subst ha
                    obtain rfl := Q_X4_ hb4_
                    obtain rfl := Q_X10_ hb10_
                    simp only [putSel, hb1_, hb3_, hb4_, hb5_, hb6_, hb8_, hb9_, hb10_, hb11_, hb12_, hb13_, hb14_, if_true, Act.put, List.setIfInBounds_toArray, List.set_cons_zero, List.set_cons_succ]
                    have BK109 := Aside0.mk Q_BK109
                    clear Q_BK109
                    have HB := Aside0.mk Q_HB
                    clear Q_HB
                    have HO115 := Aside0.mk (Q_HO115 hb1_)
                    clear Q_HO115
                    have HA_HO115 := Aside0.mk (Q_HA_HO115 hb1_)
                    clear Q_HA_HO115
                    have HO119 := Aside0.mk (Q_HO119 hb6_)
                    clear Q_HO119
                    have HA_HO119 := Aside0.mk (Q_HA_HO119 hb6_)
                    clear Q_HA_HO119
                    clear hall hb1_ hb3_ hb4_ hb5_ hb6_ hb8_ hb9_ hb10_ hb11_ hb12_ hb13_ hb14_
                    obtain ⟨co28, eo28⟩ := HA_HO115.out
                    clear HA_HO115
                    subst eo28
                    obtain ⟨co29, eo29⟩ := HA_HO119.out
                    clear HA_HO119
                    subst eo29
                    go_upto_if 38 with (first | ((with_reducible refine gate_dst (N := 7) rfl ?_); refine box_event ?hg (N := 7) ?hd (cs := #[.string (⟨#[]⟩ : ByteArray), .string (⟨#[]⟩ : ByteArray), .string (⟨#[]⟩ : ByteArray), .string (⟨#[]⟩ : ByteArray)]) (t := 50) ?hr ?_; (case hd => rfl); (case hg => rfl); (case hr => first | (go_simp; done) | (go_simp; rfl)); intro gb121 hg w30 hbox hb; have n0_ := Aside0.mk (Kd.R_below (by (with_reducible repeat (first | apply Kd.R_alloc | apply Kd.R_drewN | apply Kd.R_drew)); exact HO115.out) hb); have n1_ := Aside0.mk (Kd.R_below (by (with_reducible repeat (first | apply Kd.R_alloc | apply Kd.R_drewN | apply Kd.R_drew)); exact HO119.out) hb); have n2_ := Aside0.mk (blk_below (g := gb109) (o := .cells #[.int .i64 a0_0, .int .i64 a0_1, .int .i64 a0_2, .int .i64 a0_3, .int .i64 a0_4, .int .i64 a0_5, .int .i64 a0_6, .int .i64 a0_7, .int .i64 a0_8, .int .i64 a0_9, .int .i64 a0_10, .int .i64 a0_11, .string a0_12] 24 (0, 0)) (by (with_reducible repeat (first | refine blk_drewN ?_ _ | refine blk_drew ?_ | refine blk_alloc ?_ _)); exact BK109.out) hb); have n3_ := Aside0.mk (below_step (by repeat (first | (with_reducible first | exact HB.out | apply below_alloc | apply pw_below_drewN | apply below_drew1 | refine below_set ?_ GE109.out) | exact HB.out)) hb); have n4_ := Aside0.mk (hbox); have n5_ := Aside0.mk ((by rw [hg]; exact (below_size (by repeat (first | (with_reducible first | exact HB.out | apply below_alloc | apply pw_below_drewN | apply below_drew1 | refine below_set ?_ GE109.out) | exact HB.out))) : w.heap.size ≤ gb121)); have n6_ := Aside0.mk ((by rw [hg]; exact (below_size (by repeat (first | (with_reducible first | exact HB.out | apply below_alloc | apply pw_below_drewN | apply below_drew1 | refine below_set ?_ GE109.out) | exact HB.out))) : w.heap.size ≤ gb121)); have n7_ := Aside0.mk ((by rw [hg]; exact Nat.ne_of_lt (blk_lt (g := gb109) (o := .cells #[.int .i64 a0_0, .int .i64 a0_1, .int .i64 a0_2, .int .i64 a0_3, .int .i64 a0_4, .int .i64 a0_5, .int .i64 a0_6, .int .i64 a0_7, .int .i64 a0_8, .int .i64 a0_9, .int .i64 a0_10, .int .i64 a0_11, .string a0_12] 24 (0, 0)) (by (with_reducible repeat (first | refine blk_drewN ?_ _ | refine blk_drew ?_ | refine blk_alloc ?_ _)); exact BK109.out)) : gb109 ≠ gb121)); have n8_ := Aside0.mk ((by rw [hg]; exact Nat.ne_of_gt (blk_lt (g := gb109) (o := .cells #[.int .i64 a0_0, .int .i64 a0_1, .int .i64 a0_2, .int .i64 a0_3, .int .i64 a0_4, .int .i64 a0_5, .int .i64 a0_6, .int .i64 a0_7, .int .i64 a0_8, .int .i64 a0_9, .int .i64 a0_10, .int .i64 a0_11, .string a0_12] 24 (0, 0)) (by (with_reducible repeat (first | refine blk_drewN ?_ _ | refine blk_drew ?_ | refine blk_alloc ?_ _)); exact BK109.out)) : gb121 ≠ gb109)); clear HO115; clear HO119; clear BK109; clear HB; have HO115 := n0_; have HO119 := n1_; have BK109 := n2_; have HB := n3_; have BK121 := n4_; have GW121 := n5_; have GE121 := n6_; have NB109_121 := n7_; have NB121_109 := n8_; clear n0_ n1_ n2_ n3_ n4_ n5_ n6_ n7_ n8_; clear hb hbox hg; have hnb31 := NB121_109.out; have hnc31 := NB109_121.out; have hcz32_0 : w30.cell? ⟨gb121, 0, none⟩ = some (.string (⟨#[]⟩ : ByteArray)) := (blk_cell BK121.out 0).trans rfl; have hcz32_1 : w30.cell? ⟨gb121, 1, none⟩ = some (.string (⟨#[]⟩ : ByteArray)) := (blk_cell BK121.out 1).trans rfl; have hcz32_2 : w30.cell? ⟨gb121, 2, none⟩ = some (.string (⟨#[]⟩ : ByteArray)) := (blk_cell BK121.out 2).trans rfl; have hcz32_3 : w30.cell? ⟨gb121, 3, none⟩ = some (.string (⟨#[]⟩ : ByteArray)) := (blk_cell BK121.out 3).trans rfl; have hfz32_0 := blk_frozen BK121.out 0; have hfz32_1 := blk_frozen BK121.out 1; have hfz32_2 := blk_frozen BK121.out 2; have hfz32_3 := blk_frozen BK121.out 3))
                    (try simp only [Act.put, List.setIfInBounds_toArray, List.set_cons_zero, List.set_cons_succ])
                    go_cut [] (fun wc => ∃ (kq : Nat) (x122000_17 : ByteArray) (x122001_17 : ByteArray) (x122002_17 : ByteArray) (x122003_17 : ByteArray), Aside0 (domesdayref07_Text.j1 kq (x3_1 ++ ((rdOf ByteArray.empty y113 (ji10)) ++ (rdOf ByteArray.empty y117 (ji13)))) t111 x5_1 t112 a0_0 a0_1 a0_2 a0_3 a0_4 a0_5 a0_6 a0_7 a0_8 a0_9 a0_10 a0_11 a0_12 x122000_17 x122001_17 x122002_17 x122003_17 = some r) ∧ Aside0 (kq ≤ k1) ∧ Aside0 (wc.heap[gb109]? = some (.cells #[.int .i64 a0_0, .int .i64 a0_1, .int .i64 a0_2, .int .i64 a0_3, .int .i64 a0_4, .int .i64 a0_5, .int .i64 a0_6, .int .i64 a0_7, .int .i64 a0_8, .int .i64 a0_9, .int .i64 a0_10, .int .i64 a0_11, .string a0_12] 24 (0, 0))) ∧ Aside0 (wc.heap[gb121]? = some (.cells #[.string x122000_17, .string x122001_17, .string x122002_17, .string x122003_17] 50 (0, 0))) ∧ Aside0 (Below w.heap.size w wc))
                    case first =>
                      have H := HC18.out
                      clear HC18
                      by_cases c33 : x5_1 = 0
                      · rw [if_pos c33] at H
                        have c33b0 : (x5_1 == 0) = true := beq_iff_eq.mpr c33
                        have c33b1 : (x5_1 != 0) = false := bne_eq_false_iff_eq.mpr c33
                        clear c33
                        (first | rw [c33b0] | (simp only [i64_w, i32_w]; rw [c33b0]) | skip)
                        have H' := Aside0.mk H
                        clear H
                        have hnb34 := NB121_109.out
                        have hnc34 := NB109_121.out
                        have hcz35_0 : w30.cell? ⟨gb121, 0, none⟩ = some (.string (⟨#[]⟩ : ByteArray)) := (blk_cell BK121.out 0).trans rfl
                        have hcz35_1 : w30.cell? ⟨gb121, 1, none⟩ = some (.string (⟨#[]⟩ : ByteArray)) := (blk_cell BK121.out 1).trans rfl
                        have hcz35_2 : w30.cell? ⟨gb121, 2, none⟩ = some (.string (⟨#[]⟩ : ByteArray)) := (blk_cell BK121.out 2).trans rfl
                        have hcz35_3 : w30.cell? ⟨gb121, 3, none⟩ = some (.string (⟨#[]⟩ : ByteArray)) := (blk_cell BK121.out 3).trans rfl
                        have hfz35_0 := blk_frozen BK121.out 0
                        have hfz35_1 := blk_frozen BK121.out 1
                        have hfz35_2 := blk_frozen BK121.out 2
                        have hfz35_3 := blk_frozen BK121.out 3
                        go_wp2
                        go_meet
                        case rel => exact ⟨_, ((⟨#[45]⟩ : ByteArray)), ((⟨#[120]⟩ : ByteArray)), ((⟨#[84]⟩ : ByteArray)), ((⟨#[116]⟩ : ByteArray)), H', ⟨by have := HK1.out; first | omega | exact Nat.le_refl _⟩, ⟨by (with_reducible repeat (first | refine blk_drewN ?_ _ | refine blk_drew ?_ | refine blk_alloc ?_ _)); refine blk_far ?_ NB109_121.out _; (with_reducible repeat (first | refine blk_drewN ?_ _ | refine blk_drew ?_ | refine blk_alloc ?_ _)); refine blk_far ?_ NB109_121.out _; (with_reducible repeat (first | refine blk_drewN ?_ _ | refine blk_drew ?_ | refine blk_alloc ?_ _)); refine blk_far ?_ NB109_121.out _; (with_reducible repeat (first | refine blk_drewN ?_ _ | refine blk_drew ?_ | refine blk_alloc ?_ _)); refine blk_far ?_ NB109_121.out _; (with_reducible repeat (first | refine blk_drewN ?_ _ | refine blk_drew ?_ | refine blk_alloc ?_ _)); refine blk_far ?_ NB109_121.out _; (with_reducible repeat (first | refine blk_drewN ?_ _ | refine blk_drew ?_ | refine blk_alloc ?_ _)); refine blk_far ?_ NB109_121.out _; (with_reducible repeat (first | refine blk_drewN ?_ _ | refine blk_drew ?_ | refine blk_alloc ?_ _)); refine blk_far ?_ NB109_121.out _; (with_reducible repeat (first | refine blk_drewN ?_ _ | refine blk_drew ?_ | refine blk_alloc ?_ _)); refine blk_far ?_ NB109_121.out _; (with_reducible repeat (first | refine blk_drewN ?_ _ | refine blk_drew ?_ | refine blk_alloc ?_ _)); exact BK109.out⟩, ⟨by (with_reducible repeat (first | refine blk_drewN ?_ _ | refine blk_drew ?_ | refine blk_alloc ?_ _)); refine blk_put (cs := #[.string (⟨#[45]⟩ : ByteArray), .string (⟨#[120]⟩ : ByteArray), .string (⟨#[84]⟩ : ByteArray), .string (⟨#[115]⟩ : ByteArray)]) ?_ 3 _ (by first | rfl | (simp; done)); (with_reducible repeat (first | refine blk_drewN ?_ _ | refine blk_drew ?_ | refine blk_alloc ?_ _)); refine blk_put (cs := #[.string (⟨#[45]⟩ : ByteArray), .string (⟨#[120]⟩ : ByteArray), .string (⟨#[83]⟩ : ByteArray), .string (⟨#[115]⟩ : ByteArray)]) ?_ 2 _ (by first | rfl | (simp; done)); (with_reducible repeat (first | refine blk_drewN ?_ _ | refine blk_drew ?_ | refine blk_alloc ?_ _)); refine blk_put (cs := #[.string (⟨#[45]⟩ : ByteArray), .string (⟨#[120]⟩ : ByteArray), .string (⟨#[83]⟩ : ByteArray), .string (⟨#[115]⟩ : ByteArray)]) ?_ 1 _ (by first | rfl | (simp; done)); (with_reducible repeat (first | refine blk_drewN ?_ _ | refine blk_drew ?_ | refine blk_alloc ?_ _)); refine blk_put (cs := #[.string (⟨#[45]⟩ : ByteArray), .string (⟨#[120]⟩ : ByteArray), .string (⟨#[83]⟩ : ByteArray), .string (⟨#[115]⟩ : ByteArray)]) ?_ 0 _ (by first | rfl | (simp; done)); (with_reducible repeat (first | refine blk_drewN ?_ _ | refine blk_drew ?_ | refine blk_alloc ?_ _)); refine blk_put (cs := #[.string (⟨#[45]⟩ : ByteArray), .string (⟨#[120]⟩ : ByteArray), .string (⟨#[83]⟩ : ByteArray), .string (⟨#[]⟩ : ByteArray)]) ?_ 3 _ (by first | rfl | (simp; done)); (with_reducible repeat (first | refine blk_drewN ?_ _ | refine blk_drew ?_ | refine blk_alloc ?_ _)); refine blk_put (cs := #[.string (⟨#[45]⟩ : ByteArray), .string (⟨#[120]⟩ : ByteArray), .string (⟨#[]⟩ : ByteArray), .string (⟨#[]⟩ : ByteArray)]) ?_ 2 _ (by first | rfl | (simp; done)); (with_reducible repeat (first | refine blk_drewN ?_ _ | refine blk_drew ?_ | refine blk_alloc ?_ _)); refine blk_put (cs := #[.string (⟨#[45]⟩ : ByteArray), .string (⟨#[]⟩ : ByteArray), .string (⟨#[]⟩ : ByteArray), .string (⟨#[]⟩ : ByteArray)]) ?_ 1 _ (by first | rfl | (simp; done)); (with_reducible repeat (first | refine blk_drewN ?_ _ | refine blk_drew ?_ | refine blk_alloc ?_ _)); refine blk_put (cs := #[.string (⟨#[]⟩ : ByteArray), .string (⟨#[]⟩ : ByteArray), .string (⟨#[]⟩ : ByteArray), .string (⟨#[]⟩ : ByteArray)]) ?_ 0 _ (by first | rfl | (simp; done)); (with_reducible repeat (first | refine blk_drewN ?_ _ | refine blk_drew ?_ | refine blk_alloc ?_ _)); exact BK121.out⟩, ⟨by repeat (first | (with_reducible first | exact HB.out | apply below_alloc | apply pw_below_drewN | apply below_drew1 | refine below_set ?_ GE109.out | refine below_set ?_ GE121.out) | exact HB.out)⟩⟩
                      · rw [if_neg c33] at H
                        have c33b0 : (x5_1 == 0) = false := beq_eq_false_iff_ne.mpr c33
                        have c33b1 : (x5_1 != 0) = true := bne_iff_ne.mpr c33
                        (first | rw [c33b0] | (simp only [i64_w, i32_w]; rw [c33b0]) | skip)
                        have H' := Aside0.mk H
                        clear H
                        go_wp2
                        go_meet
                        case rel => exact ⟨_, ((⟨#[45]⟩ : ByteArray)), ((⟨#[120]⟩ : ByteArray)), ((⟨#[83]⟩ : ByteArray)), ((⟨#[115]⟩ : ByteArray)), H', ⟨by have := HK1.out; first | omega | exact Nat.le_refl _⟩, ⟨by (with_reducible repeat (first | refine blk_drewN ?_ _ | refine blk_drew ?_ | refine blk_alloc ?_ _)); refine blk_far ?_ NB109_121.out _; (with_reducible repeat (first | refine blk_drewN ?_ _ | refine blk_drew ?_ | refine blk_alloc ?_ _)); refine blk_far ?_ NB109_121.out _; (with_reducible repeat (first | refine blk_drewN ?_ _ | refine blk_drew ?_ | refine blk_alloc ?_ _)); refine blk_far ?_ NB109_121.out _; (with_reducible repeat (first | refine blk_drewN ?_ _ | refine blk_drew ?_ | refine blk_alloc ?_ _)); refine blk_far ?_ NB109_121.out _; (with_reducible repeat (first | refine blk_drewN ?_ _ | refine blk_drew ?_ | refine blk_alloc ?_ _)); exact BK109.out⟩, ⟨by (with_reducible repeat (first | refine blk_drewN ?_ _ | refine blk_drew ?_ | refine blk_alloc ?_ _)); refine blk_put (cs := #[.string (⟨#[45]⟩ : ByteArray), .string (⟨#[120]⟩ : ByteArray), .string (⟨#[83]⟩ : ByteArray), .string (⟨#[]⟩ : ByteArray)]) ?_ 3 _ (by first | rfl | (simp; done)); (with_reducible repeat (first | refine blk_drewN ?_ _ | refine blk_drew ?_ | refine blk_alloc ?_ _)); refine blk_put (cs := #[.string (⟨#[45]⟩ : ByteArray), .string (⟨#[120]⟩ : ByteArray), .string (⟨#[]⟩ : ByteArray), .string (⟨#[]⟩ : ByteArray)]) ?_ 2 _ (by first | rfl | (simp; done)); (with_reducible repeat (first | refine blk_drewN ?_ _ | refine blk_drew ?_ | refine blk_alloc ?_ _)); refine blk_put (cs := #[.string (⟨#[45]⟩ : ByteArray), .string (⟨#[]⟩ : ByteArray), .string (⟨#[]⟩ : ByteArray), .string (⟨#[]⟩ : ByteArray)]) ?_ 1 _ (by first | rfl | (simp; done)); (with_reducible repeat (first | refine blk_drewN ?_ _ | refine blk_drew ?_ | refine blk_alloc ?_ _)); refine blk_put (cs := #[.string (⟨#[]⟩ : ByteArray), .string (⟨#[]⟩ : ByteArray), .string (⟨#[]⟩ : ByteArray), .string (⟨#[]⟩ : ByteArray)]) ?_ 0 _ (by first | rfl | (simp; done)); (with_reducible repeat (first | refine blk_drewN ?_ _ | refine blk_drew ?_ | refine blk_alloc ?_ _)); exact BK121.out⟩, ⟨by repeat (first | (with_reducible first | exact HB.out | apply below_alloc | apply pw_below_drewN | apply below_drew1 | refine below_set ?_ GE109.out | refine below_set ?_ GE121.out) | exact HB.out)⟩⟩
                    case rest =>
                      clear HC18
                      try clear c1
                      try clear qi1
                      try clear p2
                      try clear c3
                      try clear p6
                      try clear c8
                      try clear c8b0
                      try clear c11
                      try clear c11b0
                      try clear qi11
                      try clear c12
                      try clear c12b0
                      try clear qi12
                      try clear c13
                      try clear c14
                      try clear c14b0
                      try clear c15
                      try clear c15b0
                      try clear c16
                      try clear c16b0
                      try clear c16b1
                      try clear c16b2
                      try clear c17
                      try clear c17b0
                      try clear c17b1
                      try clear c17b2
                      try clear c31
                      try clear c33
                      try clear c33b0
                      try clear c33b1
                      try clear c34
                      try clear hcz19_0
                      try clear hcz19_1
                      try clear hcz19_10
                      try clear hcz19_11
                      try clear hcz19_12
                      try clear hcz19_2
                      try clear hcz19_3
                      try clear hcz19_4
                      try clear hcz19_5
                      try clear hcz19_6
                      try clear hcz19_7
                      try clear hcz19_8
                      try clear hcz19_9
                      try clear hcz32_0
                      try clear hcz32_1
                      try clear hcz32_2
                      try clear hcz32_3
                      try clear hcz35_0
                      try clear hcz35_1
                      try clear hcz35_2
                      try clear hcz35_3
                      try clear hcz5_0
                      try clear hcz5_1
                      try clear hcz5_10
                      try clear hcz5_11
                      try clear hcz5_12
                      try clear hcz5_2
                      try clear hcz5_3
                      try clear hcz5_4
                      try clear hcz5_5
                      try clear hcz5_6
                      try clear hcz5_7
                      try clear hcz5_8
                      try clear hcz5_9
                      try clear hcz7_0
                      try clear hcz7_1
                      try clear hcz7_10
                      try clear hcz7_11
                      try clear hcz7_12
                      try clear hcz7_2
                      try clear hcz7_3
                      try clear hcz7_4
                      try clear hcz7_5
                      try clear hcz7_6
                      try clear hcz7_7
                      try clear hcz7_8
                      try clear hcz7_9
                      try clear hfz19_0
                      try clear hfz19_1
                      try clear hfz19_10
                      try clear hfz19_11
                      try clear hfz19_12
                      try clear hfz19_2
                      try clear hfz19_3
                      try clear hfz19_4
                      try clear hfz19_5
                      try clear hfz19_6
                      try clear hfz19_7
                      try clear hfz19_8
                      try clear hfz19_9
                      try clear hfz32_0
                      try clear hfz32_1
                      try clear hfz32_2
                      try clear hfz32_3
                      try clear hfz35_0
                      try clear hfz35_1
                      try clear hfz35_2
                      try clear hfz35_3
                      try clear hfz5_0
                      try clear hfz5_1
                      try clear hfz5_10
                      try clear hfz5_11
                      try clear hfz5_12
                      try clear hfz5_2
                      try clear hfz5_3
                      try clear hfz5_4
                      try clear hfz5_5
                      try clear hfz5_6
                      try clear hfz5_7
                      try clear hfz5_8
                      try clear hfz5_9
                      try clear hfz7_0
                      try clear hfz7_1
                      try clear hfz7_10
                      try clear hfz7_11
                      try clear hfz7_12
                      try clear hfz7_2
                      try clear hfz7_3
                      try clear hfz7_4
                      try clear hfz7_5
                      try clear hfz7_6
                      try clear hfz7_7
                      try clear hfz7_8
                      try clear hfz7_9
                      try clear p2
                      obtain ⟨kq, x122000_17, x122001_17, x122002_17, x122003_17, HA, HJ17, BK109, BK121, HB⟩ := hcut
                      cases kq with
                      | zero => exact absurd HA.out (by simp [domesdayref07_Text.j1])
                      | succ kj17 =>
                        have H := HA.out
                        clear HA
                        simp only [domesdayref07_Text.j1] at H
                        have HC36 := Aside0.mk H
                        clear H
                        go_upto_region 12 with (fail)
                        go_cut [67] (fun v67 wc => ∃ (kq : Nat) (x67_35 : Bool), v67 = .bool x67_35 ∧ Aside0 (domesdayref07_Text.j2 kq (x3_1 ++ ((rdOf ByteArray.empty y113 (ji10)) ++ (rdOf ByteArray.empty y117 (ji13)))) t111 x5_1 (Int.tmod t112 2) x67_35 a0_0 a0_1 a0_2 a0_3 a0_4 a0_5 a0_6 a0_7 a0_8 a0_9 a0_10 a0_11 a0_12 x122000_17 x122001_17 x122002_17 x122003_17 = some r) ∧ Aside0 (kq ≤ kj17) ∧ Aside0 (wc.heap[gb109]? = some (.cells #[.int .i64 a0_0, .int .i64 a0_1, .int .i64 a0_2, .int .i64 a0_3, .int .i64 a0_4, .int .i64 a0_5, .int .i64 a0_6, .int .i64 a0_7, .int .i64 a0_8, .int .i64 a0_9, .int .i64 a0_10, .int .i64 a0_11, .string a0_12] 24 (0, 0))) ∧ Aside0 (wc.heap[gb121]? = some (.cells #[.string x122000_17, .string x122001_17, .string x122002_17, .string x122003_17] 50 (0, 0))) ∧ Aside0 (Below w.heap.size w wc))
                        case first =>
                          have H := HC36.out
                          clear HC36
                          by_cases c37 : x5_1 = 2
                          · rw [if_pos c37] at H
                            have c37b0 : (x5_1 == 2) = true := beq_iff_eq.mpr c37
                            have c37b1 : (x5_1 != 2) = false := bne_eq_false_iff_eq.mpr c37
                            clear c37
                            (first | rw [c37b0] | (simp only [i64_w, i32_w]; rw [c37b0]) | skip)
                            by_cases c38 : (wrap64 (Int.tdiv t111 4)) = 1
                            · rw [if_pos c38] at H
                              have c38b0 : ((wrap64 (Int.tdiv t111 4)) == 1) = true := beq_iff_eq.mpr c38
                              have c38b1 : ((wrap64 (Int.tdiv t111 4)) != 1) = false := bne_eq_false_iff_eq.mpr c38
                              clear c38
                              have H' := Aside0.mk H
                              clear H
                              go_wp2
                              go_meet
                              case rel => exact ⟨_, (true), (by first | rfl | (simp; done) | (simp [*]; done)), H', ⟨by have := HK1.out; have := HJ17.out; first | omega | exact Nat.le_refl _⟩, ⟨by (with_reducible repeat (first | refine blk_drewN ?_ _ | refine blk_drew ?_ | refine blk_alloc ?_ _)); exact BK109.out⟩, ⟨by (with_reducible repeat (first | refine blk_drewN ?_ _ | refine blk_drew ?_ | refine blk_alloc ?_ _)); exact BK121.out⟩, ⟨by repeat (first | (with_reducible first | exact HB.out | apply below_alloc | apply pw_below_drewN | apply below_drew1 | refine below_set ?_ GE109.out | refine below_set ?_ GE121.out) | exact HB.out)⟩⟩
                            · rw [if_neg c38] at H
                              have c38b0 : ((wrap64 (Int.tdiv t111 4)) == 1) = false := beq_eq_false_iff_ne.mpr c38
                              have c38b1 : ((wrap64 (Int.tdiv t111 4)) != 1) = true := bne_iff_ne.mpr c38
                              by_cases c39 : x5_1 = 1
                              · rw [if_pos c39] at H
                                have c39b0 : (x5_1 == 1) = true := beq_iff_eq.mpr c39
                                have c39b1 : (x5_1 != 1) = false := bne_eq_false_iff_eq.mpr c39
                                clear c39
                                by_cases c40 : (Int.tmod (wrap64 (Int.tdiv t111 2)) 2) = 1
                                · rw [if_pos c40] at H
                                  have c40b0 : ((Int.tmod (wrap64 (Int.tdiv t111 2)) 2) == 1) = true := beq_iff_eq.mpr c40
                                  have c40b1 : ((Int.tmod (wrap64 (Int.tdiv t111 2)) 2) != 1) = false := bne_eq_false_iff_eq.mpr c40
                                  clear c40
                                  have H' := Aside0.mk H
                                  clear H
                                  go_wp2
                                  go_meet
                                  case rel => exact ⟨_, (true), (by first | rfl | (simp; done) | (simp [*]; done)), H', ⟨by have := HK1.out; have := HJ17.out; first | omega | exact Nat.le_refl _⟩, ⟨by (with_reducible repeat (first | refine blk_drewN ?_ _ | refine blk_drew ?_ | refine blk_alloc ?_ _)); exact BK109.out⟩, ⟨by (with_reducible repeat (first | refine blk_drewN ?_ _ | refine blk_drew ?_ | refine blk_alloc ?_ _)); exact BK121.out⟩, ⟨by repeat (first | (with_reducible first | exact HB.out | apply below_alloc | apply pw_below_drewN | apply below_drew1 | refine below_set ?_ GE109.out | refine below_set ?_ GE121.out) | exact HB.out)⟩⟩
                                · rw [if_neg c40] at H
                                  have c40b0 : ((Int.tmod (wrap64 (Int.tdiv t111 2)) 2) == 1) = false := beq_eq_false_iff_ne.mpr c40
                                  have c40b1 : ((Int.tmod (wrap64 (Int.tdiv t111 2)) 2) != 1) = true := bne_iff_ne.mpr c40
                                  by_cases c41 : x5_1 = 0
                                  · rw [if_pos c41] at H
                                    have c41b0 : (x5_1 == 0) = true := beq_iff_eq.mpr c41
                                    have c41b1 : (x5_1 != 0) = false := bne_eq_false_iff_eq.mpr c41
                                    clear c41
                                    have H' := Aside0.mk H
                                    clear H
                                    go_wp2
                                    go_meet
                                    case rel => exact ⟨_, (((Int.tmod t111 2) == 1)), (by first | rfl | (simp; done) | (simp [*]; done)), H', ⟨by have := HK1.out; have := HJ17.out; first | omega | exact Nat.le_refl _⟩, ⟨by (with_reducible repeat (first | refine blk_drewN ?_ _ | refine blk_drew ?_ | refine blk_alloc ?_ _)); exact BK109.out⟩, ⟨by (with_reducible repeat (first | refine blk_drewN ?_ _ | refine blk_drew ?_ | refine blk_alloc ?_ _)); exact BK121.out⟩, ⟨by repeat (first | (with_reducible first | exact HB.out | apply below_alloc | apply pw_below_drewN | apply below_drew1 | refine below_set ?_ GE109.out | refine below_set ?_ GE121.out) | exact HB.out)⟩⟩
                                  · rw [if_neg c41] at H
                                    have c41b0 : (x5_1 == 0) = false := beq_eq_false_iff_ne.mpr c41
                                    have c41b1 : (x5_1 != 0) = true := bne_iff_ne.mpr c41
                                    have H' := Aside0.mk H
                                    clear H
                                    go_wp2
                                    go_meet
                                    case rel => exact ⟨_, (false), (by first | rfl | (simp; done) | (simp [*]; done)), H', ⟨by have := HK1.out; have := HJ17.out; first | omega | exact Nat.le_refl _⟩, ⟨by (with_reducible repeat (first | refine blk_drewN ?_ _ | refine blk_drew ?_ | refine blk_alloc ?_ _)); exact BK109.out⟩, ⟨by (with_reducible repeat (first | refine blk_drewN ?_ _ | refine blk_drew ?_ | refine blk_alloc ?_ _)); exact BK121.out⟩, ⟨by repeat (first | (with_reducible first | exact HB.out | apply below_alloc | apply pw_below_drewN | apply below_drew1 | refine below_set ?_ GE109.out | refine below_set ?_ GE121.out) | exact HB.out)⟩⟩
                              · rw [if_neg c39] at H
                                have c39b0 : (x5_1 == 1) = false := beq_eq_false_iff_ne.mpr c39
                                have c39b1 : (x5_1 != 1) = true := bne_iff_ne.mpr c39
                                by_cases c42 : x5_1 = 0
                                · rw [if_pos c42] at H
                                  have c42b0 : (x5_1 == 0) = true := beq_iff_eq.mpr c42
                                  have c42b1 : (x5_1 != 0) = false := bne_eq_false_iff_eq.mpr c42
                                  clear c42
                                  have H' := Aside0.mk H
                                  clear H
                                  go_wp2
                                  go_meet
                                  case rel => exact ⟨_, (((Int.tmod t111 2) == 1)), (by first | rfl | (simp; done) | (simp [*]; done)), H', ⟨by have := HK1.out; have := HJ17.out; first | omega | exact Nat.le_refl _⟩, ⟨by (with_reducible repeat (first | refine blk_drewN ?_ _ | refine blk_drew ?_ | refine blk_alloc ?_ _)); exact BK109.out⟩, ⟨by (with_reducible repeat (first | refine blk_drewN ?_ _ | refine blk_drew ?_ | refine blk_alloc ?_ _)); exact BK121.out⟩, ⟨by repeat (first | (with_reducible first | exact HB.out | apply below_alloc | apply pw_below_drewN | apply below_drew1 | refine below_set ?_ GE109.out | refine below_set ?_ GE121.out) | exact HB.out)⟩⟩
                                · rw [if_neg c42] at H
                                  have c42b0 : (x5_1 == 0) = false := beq_eq_false_iff_ne.mpr c42
                                  have c42b1 : (x5_1 != 0) = true := bne_iff_ne.mpr c42
                                  have H' := Aside0.mk H
                                  clear H
                                  go_wp2
                                  go_meet
                                  case rel => exact ⟨_, (false), (by first | rfl | (simp; done) | (simp [*]; done)), H', ⟨by have := HK1.out; have := HJ17.out; first | omega | exact Nat.le_refl _⟩, ⟨by (with_reducible repeat (first | refine blk_drewN ?_ _ | refine blk_drew ?_ | refine blk_alloc ?_ _)); exact BK109.out⟩, ⟨by (with_reducible repeat (first | refine blk_drewN ?_ _ | refine blk_drew ?_ | refine blk_alloc ?_ _)); exact BK121.out⟩, ⟨by repeat (first | (with_reducible first | exact HB.out | apply below_alloc | apply pw_below_drewN | apply below_drew1 | refine below_set ?_ GE109.out | refine below_set ?_ GE121.out) | exact HB.out)⟩⟩
                          · rw [if_neg c37] at H
                            have c37b0 : (x5_1 == 2) = false := beq_eq_false_iff_ne.mpr c37
                            have c37b1 : (x5_1 != 2) = true := bne_iff_ne.mpr c37
                            (first | rw [c37b0] | (simp only [i64_w, i32_w]; rw [c37b0]) | skip)
                            by_cases c43 : x5_1 = 1
                            · rw [if_pos c43] at H
                              have c43b0 : (x5_1 == 1) = true := beq_iff_eq.mpr c43
                              have c43b1 : (x5_1 != 1) = false := bne_eq_false_iff_eq.mpr c43
                              clear c43
                              by_cases c44 : (Int.tmod (wrap64 (Int.tdiv t111 2)) 2) = 1
                              · rw [if_pos c44] at H
                                have c44b0 : ((Int.tmod (wrap64 (Int.tdiv t111 2)) 2) == 1) = true := beq_iff_eq.mpr c44
                                have c44b1 : ((Int.tmod (wrap64 (Int.tdiv t111 2)) 2) != 1) = false := bne_eq_false_iff_eq.mpr c44
                                clear c44
                                have H' := Aside0.mk H
                                clear H
                                go_wp2
                                go_meet
                                case rel => exact ⟨_, (true), (by first | rfl | (simp; done) | (simp [*]; done)), H', ⟨by have := HK1.out; have := HJ17.out; first | omega | exact Nat.le_refl _⟩, ⟨by (with_reducible repeat (first | refine blk_drewN ?_ _ | refine blk_drew ?_ | refine blk_alloc ?_ _)); exact BK109.out⟩, ⟨by (with_reducible repeat (first | refine blk_drewN ?_ _ | refine blk_drew ?_ | refine blk_alloc ?_ _)); exact BK121.out⟩, ⟨by repeat (first | (with_reducible first | exact HB.out | apply below_alloc | apply pw_below_drewN | apply below_drew1 | refine below_set ?_ GE109.out | refine below_set ?_ GE121.out) | exact HB.out)⟩⟩
                              · rw [if_neg c44] at H
                                have c44b0 : ((Int.tmod (wrap64 (Int.tdiv t111 2)) 2) == 1) = false := beq_eq_false_iff_ne.mpr c44
                                have c44b1 : ((Int.tmod (wrap64 (Int.tdiv t111 2)) 2) != 1) = true := bne_iff_ne.mpr c44
                                by_cases c45 : x5_1 = 0
                                · rw [if_pos c45] at H
                                  have c45b0 : (x5_1 == 0) = true := beq_iff_eq.mpr c45
                                  have c45b1 : (x5_1 != 0) = false := bne_eq_false_iff_eq.mpr c45
                                  clear c45
                                  have H' := Aside0.mk H
                                  clear H
                                  go_wp2
                                  go_meet
                                  case rel => exact ⟨_, (((Int.tmod t111 2) == 1)), (by first | rfl | (simp; done) | (simp [*]; done)), H', ⟨by have := HK1.out; have := HJ17.out; first | omega | exact Nat.le_refl _⟩, ⟨by (with_reducible repeat (first | refine blk_drewN ?_ _ | refine blk_drew ?_ | refine blk_alloc ?_ _)); exact BK109.out⟩, ⟨by (with_reducible repeat (first | refine blk_drewN ?_ _ | refine blk_drew ?_ | refine blk_alloc ?_ _)); exact BK121.out⟩, ⟨by repeat (first | (with_reducible first | exact HB.out | apply below_alloc | apply pw_below_drewN | apply below_drew1 | refine below_set ?_ GE109.out | refine below_set ?_ GE121.out) | exact HB.out)⟩⟩
                                · rw [if_neg c45] at H
                                  have c45b0 : (x5_1 == 0) = false := beq_eq_false_iff_ne.mpr c45
                                  have c45b1 : (x5_1 != 0) = true := bne_iff_ne.mpr c45
                                  have H' := Aside0.mk H
                                  clear H
                                  go_wp2
                                  go_meet
                                  case rel => exact ⟨_, (false), (by first | rfl | (simp; done) | (simp [*]; done)), H', ⟨by have := HK1.out; have := HJ17.out; first | omega | exact Nat.le_refl _⟩, ⟨by (with_reducible repeat (first | refine blk_drewN ?_ _ | refine blk_drew ?_ | refine blk_alloc ?_ _)); exact BK109.out⟩, ⟨by (with_reducible repeat (first | refine blk_drewN ?_ _ | refine blk_drew ?_ | refine blk_alloc ?_ _)); exact BK121.out⟩, ⟨by repeat (first | (with_reducible first | exact HB.out | apply below_alloc | apply pw_below_drewN | apply below_drew1 | refine below_set ?_ GE109.out | refine below_set ?_ GE121.out) | exact HB.out)⟩⟩
                            · rw [if_neg c43] at H
                              have c43b0 : (x5_1 == 1) = false := beq_eq_false_iff_ne.mpr c43
                              have c43b1 : (x5_1 != 1) = true := bne_iff_ne.mpr c43
                              by_cases c46 : x5_1 = 0
                              · rw [if_pos c46] at H
                                have c46b0 : (x5_1 == 0) = true := beq_iff_eq.mpr c46
                                have c46b1 : (x5_1 != 0) = false := bne_eq_false_iff_eq.mpr c46
                                clear c46
                                have H' := Aside0.mk H
                                clear H
                                go_wp2
                                go_meet
                                case rel => exact ⟨_, (((Int.tmod t111 2) == 1)), (by first | rfl | (simp; done) | (simp [*]; done)), H', ⟨by have := HK1.out; have := HJ17.out; first | omega | exact Nat.le_refl _⟩, ⟨by (with_reducible repeat (first | refine blk_drewN ?_ _ | refine blk_drew ?_ | refine blk_alloc ?_ _)); exact BK109.out⟩, ⟨by (with_reducible repeat (first | refine blk_drewN ?_ _ | refine blk_drew ?_ | refine blk_alloc ?_ _)); exact BK121.out⟩, ⟨by repeat (first | (with_reducible first | exact HB.out | apply below_alloc | apply pw_below_drewN | apply below_drew1 | refine below_set ?_ GE109.out | refine below_set ?_ GE121.out) | exact HB.out)⟩⟩
                              · rw [if_neg c46] at H
                                have c46b0 : (x5_1 == 0) = false := beq_eq_false_iff_ne.mpr c46
                                have c46b1 : (x5_1 != 0) = true := bne_iff_ne.mpr c46
                                have H' := Aside0.mk H
                                clear H
                                go_wp2
                                go_meet
                                case rel => exact ⟨_, (false), (by first | rfl | (simp; done) | (simp [*]; done)), H', ⟨by have := HK1.out; have := HJ17.out; first | omega | exact Nat.le_refl _⟩, ⟨by (with_reducible repeat (first | refine blk_drewN ?_ _ | refine blk_drew ?_ | refine blk_alloc ?_ _)); exact BK109.out⟩, ⟨by (with_reducible repeat (first | refine blk_drewN ?_ _ | refine blk_drew ?_ | refine blk_alloc ?_ _)); exact BK121.out⟩, ⟨by repeat (first | (with_reducible first | exact HB.out | apply below_alloc | apply pw_below_drewN | apply below_drew1 | refine below_set ?_ GE109.out | refine below_set ?_ GE121.out) | exact HB.out)⟩⟩
                        case rest =>
                          clear HC36
                          try clear c1
                          try clear qi1
                          try clear p2
                          try clear c3
                          try clear c4
                          try clear p6
                          try clear c8
                          try clear c8b0
                          try clear c11
                          try clear c11b0
                          try clear qi11
                          try clear c12
                          try clear c12b0
                          try clear qi12
                          try clear c13
                          try clear c14
                          try clear c14b0
                          try clear c15
                          try clear c15b0
                          try clear c16
                          try clear c16b0
                          try clear c16b1
                          try clear c16b2
                          try clear c17
                          try clear c17b0
                          try clear c17b1
                          try clear c17b2
                          try clear c31
                          try clear c33
                          try clear c33b0
                          try clear c33b1
                          try clear c34
                          try clear c37
                          try clear c37b0
                          try clear c37b1
                          try clear c38
                          try clear c38b0
                          try clear c38b1
                          try clear c39
                          try clear c39b0
                          try clear c39b1
                          try clear c40
                          try clear c40b0
                          try clear c40b1
                          try clear c41
                          try clear c41b0
                          try clear c41b1
                          try clear c42
                          try clear c42b0
                          try clear c42b1
                          try clear c43
                          try clear c43b0
                          try clear c43b1
                          try clear c44
                          try clear c44b0
                          try clear c44b1
                          try clear c45
                          try clear c45b0
                          try clear c45b1
                          try clear c46
                          try clear c46b0
                          try clear c46b1
                          try clear hcz19_0
                          try clear hcz19_1
                          try clear hcz19_10
                          try clear hcz19_11
                          try clear hcz19_12
                          try clear hcz19_2
                          try clear hcz19_3
                          try clear hcz19_4
                          try clear hcz19_5
                          try clear hcz19_6
                          try clear hcz19_7
                          try clear hcz19_8
                          try clear hcz19_9
                          try clear hcz32_0
                          try clear hcz32_1
                          try clear hcz32_2
                          try clear hcz32_3
                          try clear hcz35_0
                          try clear hcz35_1
                          try clear hcz35_2
                          try clear hcz35_3
                          try clear hcz5_0
                          try clear hcz5_1
                          try clear hcz5_10
                          try clear hcz5_11
                          try clear hcz5_12
                          try clear hcz5_2
                          try clear hcz5_3
                          try clear hcz5_4
                          try clear hcz5_5
                          try clear hcz5_6
                          try clear hcz5_7
                          try clear hcz5_8
                          try clear hcz5_9
                          try clear hcz7_0
                          try clear hcz7_1
                          try clear hcz7_10
                          try clear hcz7_11
                          try clear hcz7_12
                          try clear hcz7_2
                          try clear hcz7_3
                          try clear hcz7_4
                          try clear hcz7_5
                          try clear hcz7_6
                          try clear hcz7_7
                          try clear hcz7_8
                          try clear hcz7_9
                          try clear hfz19_0
                          try clear hfz19_1
                          try clear hfz19_10
                          try clear hfz19_11
                          try clear hfz19_12
                          try clear hfz19_2
                          try clear hfz19_3
                          try clear hfz19_4
                          try clear hfz19_5
                          try clear hfz19_6
                          try clear hfz19_7
                          try clear hfz19_8
                          try clear hfz19_9
                          try clear hfz32_0
                          try clear hfz32_1
                          try clear hfz32_2
                          try clear hfz32_3
                          try clear hfz35_0
                          try clear hfz35_1
                          try clear hfz35_2
                          try clear hfz35_3
                          try clear hfz5_0
                          try clear hfz5_1
                          try clear hfz5_10
                          try clear hfz5_11
                          try clear hfz5_12
                          try clear hfz5_2
                          try clear hfz5_3
                          try clear hfz5_4
                          try clear hfz5_5
                          try clear hfz5_6
                          try clear hfz5_7
                          try clear hfz5_8
                          try clear hfz5_9
                          try clear hfz7_0
                          try clear hfz7_1
                          try clear hfz7_10
                          try clear hfz7_11
                          try clear hfz7_12
                          try clear hfz7_2
                          try clear hfz7_3
                          try clear hfz7_4
                          try clear hfz7_5
                          try clear hfz7_6
                          try clear hfz7_7
                          try clear hfz7_8
                          try clear hfz7_9
                          try clear p2
                          try clear p6
                          obtain ⟨kq, x67_35, rfl, HA, HJ35, BK109, BK121, HB⟩ := hcut
                          cases kq with
                          | zero => exact absurd HA.out (by simp [domesdayref07_Text.j2])
                          | succ kj35 =>
                            have H := HA.out
                            clear HA
                            simp only [domesdayref07_Text.j2] at H
                            by_cases c47 : x67_35 = true
                            · subst c47
                              have H1 : (if 0 ≤ (wrap64 ((Int.tmod t112 2) + 2)) then (if (wrap64 ((Int.tmod t112 2) + 2)) < 4 then (if (x3_1 ++ ((rdOf ByteArray.empty y113 (ji10)) ++ (rdOf ByteArray.empty y117 (ji13)))).size + (rdOf ByteArray.empty [x122000_17, x122001_17, x122002_17, x122003_17] (wrap64 ((Int.tmod t112 2) + 2))).size ≤ 9223372036854775807 then (domesdayref07_Text.l0 kj35 ((x3_1 ++ ((rdOf ByteArray.empty y113 (ji10)) ++ (rdOf ByteArray.empty y117 (ji13)))) ++ (rdOf ByteArray.empty [x122000_17, x122001_17, x122002_17, x122003_17] (wrap64 ((Int.tmod t112 2) + 2)))) t111 (wrap64 (x5_1 - 1)) a0_0 a0_1 a0_2 a0_3 a0_4 a0_5 a0_6 a0_7 a0_8 a0_9 a0_10 a0_11 a0_12) else (none)) else (none)) else (none)) = some r := by rw [if_pos rfl] at H; exact H
                              clear H
                              have H := H1
                              clear H1
                              obtain ⟨ji48, hji48⟩ : ∃ j_ : Int, (wrap64 ((Int.tmod t112 2) + 2)) = j_ := ⟨_, rfl⟩
                              replace H : (if 0 ≤ (ji48) then (if (ji48) < 4 then (if (x3_1 ++ ((rdOf ByteArray.empty y113 (ji10)) ++ (rdOf ByteArray.empty y117 (ji13)))).size + (rdOf ByteArray.empty [x122000_17, x122001_17, x122002_17, x122003_17] (ji48)).size ≤ 9223372036854775807 then (domesdayref07_Text.l0 kj35 ((x3_1 ++ ((rdOf ByteArray.empty y113 (ji10)) ++ (rdOf ByteArray.empty y117 (ji13)))) ++ (rdOf ByteArray.empty [x122000_17, x122001_17, x122002_17, x122003_17] (ji48))) t111 (wrap64 (x5_1 - 1)) a0_0 a0_1 a0_2 a0_3 a0_4 a0_5 a0_6 a0_7 a0_8 a0_9 a0_10 a0_11 a0_12) else (none)) else (none)) else (none)) = some r := by first | (rw [hji48] at H; exact H) | (simp only [hji48] at H ⊢; exact H)
                              have hji48w : (IntKind.i64.wrap ((Int.tmod t112 2) + 2)) = ji48 := (i64_w _).trans hji48
                              by_cases c49 : 0 ≤ (ji48)
                              · rw [if_pos c49] at H
                                have c49b0 : decide (0 ≤ (ji48)) = true := decide_eq_true c49
                                clear c49
                                by_cases c50 : (ji48) < 4
                                · rw [if_pos c50] at H
                                  have c50b0 : decide ((ji48) < 4) = true := decide_eq_true c50
                                  clear c50
                                  by_cases c51 : (x3_1 ++ ((rdOf ByteArray.empty y113 (ji10)) ++ (rdOf ByteArray.empty y117 (ji13)))).size + (rdOf ByteArray.empty [x122000_17, x122001_17, x122002_17, x122003_17] (ji48)).size ≤ 9223372036854775807
                                  · rw [if_pos c51] at H
                                    have c51b0 := eq_true c51
                                    have c51b1 : decide ((x3_1 ++ ((rdOf ByteArray.empty y113 (ji10)) ++ (rdOf ByteArray.empty y117 (ji13)))).size + (rdOf ByteArray.empty [x122000_17, x122001_17, x122002_17, x122003_17] (ji48)).size ≤ 9223372036854775807) = true := decide_eq_true c51
                                    try have c51b2 : (9223372036854775807 < (x3_1 ++ ((rdOf ByteArray.empty y113 (ji10)) ++ (rdOf ByteArray.empty y117 (ji13)))).size + (rdOf ByteArray.empty [x122000_17, x122001_17, x122002_17, x122003_17] (ji48)).size) = False := eq_false (Nat.not_lt.2 c51)
                                    have H' := Aside0.mk H
                                    clear H
                                    have hnb52 := NB121_109.out
                                    have hnc52 := NB109_121.out
                                    have hcz53_0 : wc.cell? ⟨gb121, 0, none⟩ = some (.string x122000_17) := (blk_cell BK121.out 0).trans rfl
                                    have hcz53_1 : wc.cell? ⟨gb121, 1, none⟩ = some (.string x122001_17) := (blk_cell BK121.out 1).trans rfl
                                    have hcz53_2 : wc.cell? ⟨gb121, 2, none⟩ = some (.string x122002_17) := (blk_cell BK121.out 2).trans rfl
                                    have hcz53_3 : wc.cell? ⟨gb121, 3, none⟩ = some (.string x122003_17) := (blk_cell BK121.out 3).trans rfl
                                    have hfz53_0 := blk_frozen BK121.out 0
                                    have hfz53_1 := blk_frozen BK121.out 1
                                    have hfz53_2 := blk_frozen BK121.out 2
                                    have hfz53_3 := blk_frozen BK121.out 3
                                    have p54 : 0 ≤ ((ji48) : Int) := of_decide_eq_true (by first | (with_reducible assumption) | assumption)
                                    have q54 : (ji48) < (4 : Int) := of_decide_eq_true (by first | (with_reducible assumption) | assumption)
                                    have hj54 : wc.cell? ⟨gb121, ((ji48)).toNat, none⟩ = some (.string (rdOf ByteArray.empty [x122000_17, x122001_17, x122002_17, x122003_17] (ji48))) := arr_cell_str0 0 [x122000_17, x122001_17, x122002_17, x122003_17] rfl BK121.out (ji48) p54 q54
                                    have hk54 : wc.cell? ((⟨gb121, 0, none⟩ : Addr).add ((ji48)).toNat) = some (.string (rdOf ByteArray.empty [x122000_17, x122001_17, x122002_17, x122003_17] (ji48))) := (by rw [add_at0]; rw [Nat.zero_add]; exact hj54)
                                    replace p54 := eq_true p54
                                    replace q54 := eq_true q54
                                    go_wp2
                                    go_roundg kj35
                                    case measure => have := HK1.out; have := HJ17.out; have := HJ35.out; omega
                                    case rel => exact ⟨((x3_1 ++ ((rdOf ByteArray.empty y113 (ji10)) ++ (rdOf ByteArray.empty y117 (ji13)))) ++ (rdOf ByteArray.empty [x122000_17, x122001_17, x122002_17, x122003_17] (ji48))), (wrap64 (x5_1 - 1)), (by first | rfl | (simp; done) | (simp only [← hji10, ← hji13, ← hji48] <;> (first | rfl | simp)) | (simp [*]; done)), (by first | rfl | (simp; done) | (simp [*]; done)), H', ⟨by have := HK1.out; have := HJ17.out; have := HJ35.out; omega⟩, ⟨by (with_reducible repeat (first | refine blk_drewN ?_ _ | refine blk_drew ?_ | refine blk_alloc ?_ _)); exact BK109.out⟩, ⟨by repeat (first | (with_reducible first | exact HB.out | apply below_alloc | apply pw_below_drewN | apply below_drew1 | refine below_set ?_ GE109.out | refine below_set ?_ GE121.out) | exact HB.out)⟩⟩
                                  · rw [if_neg c51] at H
                                    exact absurd H (by simp)
                                · rw [if_neg c50] at H
                                  exact absurd H (by simp)
                              · rw [if_neg c49] at H
                                exact absurd H (by simp)
                            · replace c47 := Bool.eq_false_iff.mpr c47
                              subst c47
                              have H1 : (if 0 ≤ (Int.tmod t112 2) then (if (Int.tmod t112 2) < 4 then (if (x3_1 ++ ((rdOf ByteArray.empty y113 (ji10)) ++ (rdOf ByteArray.empty y117 (ji13)))).size + (rdOf ByteArray.empty [x122000_17, x122001_17, x122002_17, x122003_17] (Int.tmod t112 2)).size ≤ 9223372036854775807 then (domesdayref07_Text.l0 kj35 ((x3_1 ++ ((rdOf ByteArray.empty y113 (ji10)) ++ (rdOf ByteArray.empty y117 (ji13)))) ++ (rdOf ByteArray.empty [x122000_17, x122001_17, x122002_17, x122003_17] (Int.tmod t112 2))) t111 (wrap64 (x5_1 - 1)) a0_0 a0_1 a0_2 a0_3 a0_4 a0_5 a0_6 a0_7 a0_8 a0_9 a0_10 a0_11 a0_12) else (none)) else (none)) else (none)) = some r := by rw [if_neg (show ¬ (false = true) by decide)] at H; exact H
                              clear H
                              have H := H1
                              clear H1
                              obtain ⟨ji55, hji55⟩ : ∃ j_ : Int, (Int.tmod t112 2) = j_ := ⟨_, rfl⟩
                              replace H : (if 0 ≤ (ji55) then (if (ji55) < 4 then (if (x3_1 ++ ((rdOf ByteArray.empty y113 (ji10)) ++ (rdOf ByteArray.empty y117 (ji13)))).size + (rdOf ByteArray.empty [x122000_17, x122001_17, x122002_17, x122003_17] (ji55)).size ≤ 9223372036854775807 then (domesdayref07_Text.l0 kj35 ((x3_1 ++ ((rdOf ByteArray.empty y113 (ji10)) ++ (rdOf ByteArray.empty y117 (ji13)))) ++ (rdOf ByteArray.empty [x122000_17, x122001_17, x122002_17, x122003_17] (ji55))) t111 (wrap64 (x5_1 - 1)) a0_0 a0_1 a0_2 a0_3 a0_4 a0_5 a0_6 a0_7 a0_8 a0_9 a0_10 a0_11 a0_12) else (none)) else (none)) else (none)) = some r := by first | (rw [hji55] at H; exact H) | (simp only [hji55] at H ⊢; exact H)
                              by_cases c56 : 0 ≤ (ji55)
                              · rw [if_pos c56] at H
                                have c56b0 : decide (0 ≤ (ji55)) = true := decide_eq_true c56
                                clear c56
                                by_cases c57 : (ji55) < 4
                                · rw [if_pos c57] at H
                                  have c57b0 : decide ((ji55) < 4) = true := decide_eq_true c57
                                  clear c57
                                  by_cases c58 : (x3_1 ++ ((rdOf ByteArray.empty y113 (ji10)) ++ (rdOf ByteArray.empty y117 (ji13)))).size + (rdOf ByteArray.empty [x122000_17, x122001_17, x122002_17, x122003_17] (ji55)).size ≤ 9223372036854775807
                                  · rw [if_pos c58] at H
                                    have c58b0 := eq_true c58
                                    have c58b1 : decide ((x3_1 ++ ((rdOf ByteArray.empty y113 (ji10)) ++ (rdOf ByteArray.empty y117 (ji13)))).size + (rdOf ByteArray.empty [x122000_17, x122001_17, x122002_17, x122003_17] (ji55)).size ≤ 9223372036854775807) = true := decide_eq_true c58
                                    try have c58b2 : (9223372036854775807 < (x3_1 ++ ((rdOf ByteArray.empty y113 (ji10)) ++ (rdOf ByteArray.empty y117 (ji13)))).size + (rdOf ByteArray.empty [x122000_17, x122001_17, x122002_17, x122003_17] (ji55)).size) = False := eq_false (Nat.not_lt.2 c58)
                                    have H' := Aside0.mk H
                                    clear H
                                    have hnb59 := NB121_109.out
                                    have hnc59 := NB109_121.out
                                    have hcz60_0 : wc.cell? ⟨gb121, 0, none⟩ = some (.string x122000_17) := (blk_cell BK121.out 0).trans rfl
                                    have hcz60_1 : wc.cell? ⟨gb121, 1, none⟩ = some (.string x122001_17) := (blk_cell BK121.out 1).trans rfl
                                    have hcz60_2 : wc.cell? ⟨gb121, 2, none⟩ = some (.string x122002_17) := (blk_cell BK121.out 2).trans rfl
                                    have hcz60_3 : wc.cell? ⟨gb121, 3, none⟩ = some (.string x122003_17) := (blk_cell BK121.out 3).trans rfl
                                    have hfz60_0 := blk_frozen BK121.out 0
                                    have hfz60_1 := blk_frozen BK121.out 1
                                    have hfz60_2 := blk_frozen BK121.out 2
                                    have hfz60_3 := blk_frozen BK121.out 3
                                    have p61 : 0 ≤ ((ji55) : Int) := of_decide_eq_true (by first | (with_reducible assumption) | assumption)
                                    have q61 : (ji55) < (4 : Int) := of_decide_eq_true (by first | (with_reducible assumption) | assumption)
                                    have hj61 : wc.cell? ⟨gb121, ((ji55)).toNat, none⟩ = some (.string (rdOf ByteArray.empty [x122000_17, x122001_17, x122002_17, x122003_17] (ji55))) := arr_cell_str0 0 [x122000_17, x122001_17, x122002_17, x122003_17] rfl BK121.out (ji55) p61 q61
                                    have hk61 : wc.cell? ((⟨gb121, 0, none⟩ : Addr).add ((ji55)).toNat) = some (.string (rdOf ByteArray.empty [x122000_17, x122001_17, x122002_17, x122003_17] (ji55))) := (by rw [add_at0]; rw [Nat.zero_add]; exact hj61)
                                    replace p61 := eq_true p61
                                    replace q61 := eq_true q61
                                    go_wp2
                                    go_roundg kj35
                                    case measure => have := HK1.out; have := HJ17.out; have := HJ35.out; omega
                                    case rel => exact ⟨((x3_1 ++ ((rdOf ByteArray.empty y113 (ji10)) ++ (rdOf ByteArray.empty y117 (ji13)))) ++ (rdOf ByteArray.empty [x122000_17, x122001_17, x122002_17, x122003_17] (ji55))), (wrap64 (x5_1 - 1)), (by first | rfl | (simp; done) | (simp only [← hji10, ← hji13, ← hji55] <;> (first | rfl | simp)) | (simp [*]; done)), (by first | rfl | (simp; done) | (simp [*]; done)), H', ⟨by have := HK1.out; have := HJ17.out; have := HJ35.out; omega⟩, ⟨by (with_reducible repeat (first | refine blk_drewN ?_ _ | refine blk_drew ?_ | refine blk_alloc ?_ _)); exact BK109.out⟩, ⟨by repeat (first | (with_reducible first | exact HB.out | apply below_alloc | apply pw_below_drewN | apply below_drew1 | refine below_set ?_ GE109.out | refine below_set ?_ GE121.out) | exact HB.out)⟩⟩
                                  · rw [if_neg c58] at H
                                    exact absurd H (by simp)
                                · rw [if_neg c57] at H
                                  exact absurd H (by simp)
                              · rw [if_neg c56] at H
                                exact absurd H (by simp)
                  · rw [if_neg c17] at H
                    exact absurd H (by simp)
                · rw [if_neg c16] at H
                  exact absurd H (by simp)
              · rw [if_neg c15] at H
                exact absurd H (by simp)
            · rw [if_neg c14] at H
              exact absurd H (by simp)
          · rw [if_neg c12] at H
            exact absurd H (by simp)
        · rw [if_neg c11] at H
          exact absurd H (by simp)
      · rw [if_neg c8] at H
        have c8b0 : decide (0 ≤ x5_1) = false := decide_eq_false c8
        clear c8
        obtain rfl := Option.some.inj H
        go_wp2
        go_ret
        exact ⟨by first | rfl | (simp [errW_none, errW_some] <;> rfl) | (simp [*, errW_none, errW_some] <;> rfl), by repeat (first | (with_reducible first | exact HB.out | apply below_alloc | apply pw_below_drewN | apply below_drew1 | refine below_set ?_ GE109.out) | exact HB.out)⟩

end Go.Proofs.Ytngcecmfgjgigaa.QPermTexts
