-- Made by a program of this session.
import Derived.Test.YtkhbgfnbkdonlaaDoorQQuoR1
namespace Go.Proofs.YtkhbgfnbkdonlaaDoor.QQuo
open Go.RowKit Go.Proofs.YtkhbgfnbkdonlaaDoorW.PrintWords Go.Proofs.YtkhbgfnbkdonlaaDoorW.PrintLast Go.Proofs.YtkhbgfnbkdonlaaDoorW.PrintMore
attribute [local go_sem] max2_int min2_int max_two min_two max_three min_three max_four min_four   -- for this text's walks alone
set_option linter.unusedVariables false
set_option linter.unusedSimpArgs false

-- proved elsewhere: function 30 (utf8_DecodeRuneInString)

-- proved elsewhere: function 27 (strings_IndexByte)

/-! ### domesdayref03_Quote: function 10 -/
mutual
def domesdayref03_Quote.l0 : Nat → Int → ByteArray → List Int → Bool → Bool → Int → Option (ByteArray)
  | 0, _, _, _, _, _, _ => none
  | k + 1, x0, x1, x5, x6, x7, x8 => if x8 < (x5.length : Int) then (if x6 = true then (if 0 ≤ x8 then (if x7 = true then (domesdayref03_Quote.l0 k x0 x1 x5 ((rd x5 x8) == 1) true (wrap64 (x8 + 1))) else (domesdayref03_Quote.l0 k x0 x1 x5 ((rd x5 x8) == 1) ((rd x5 x8) == 2) (wrap64 (x8 + 1)))) else (none)) else (if x7 = true then (domesdayref03_Quote.l0 k x0 x1 x5 false true (wrap64 (x8 + 1))) else (if 0 ≤ x8 then (domesdayref03_Quote.l0 k x0 x1 x5 false ((rd x5 x8) == 2) (wrap64 (x8 + 1))) else (none)))) else (if x0 = 0 then (domesdayref03_Quote.j1 k x0 x1 x5 x7 true) else (if x0 = 1 then (domesdayref03_Quote.j1 k x0 x1 x5 x7 x6) else (if x0 = 3 then (domesdayref03_Quote.j1 k x0 x1 x5 x7 x6) else (domesdayref03_Quote.j1 k x0 x1 x5 x7 false))))
def domesdayref03_Quote.j1 : Nat → Int → ByteArray → List Int → Bool → Bool → Option (ByteArray)
  | 0, _, _, _, _, _ => none
  | k + 1, x0, x1, x5, x7, x53 => if x53 = true then (some x1) else (if x0 = 1 then (domesdayref03_Quote.j2 k x0 x1 x5 true) else (if x0 = 2 then (domesdayref03_Quote.j2 k x0 x1 x5 true) else (if x0 = 3 then (domesdayref03_Quote.j2 k x0 x1 x5 (!x7)) else (domesdayref03_Quote.j2 k x0 x1 x5 false))))
def domesdayref03_Quote.j2 : Nat → Int → ByteArray → List Int → Bool → Option (ByteArray)
  | 0, _, _, _, _ => none
  | k + 1, x0, x1, x5, x68 => if x68 = true then ((domesdayref03_Always.f k x1).bind fun t153 => (some t153)) else (if x0 = 3 then (domesdayref03_Quote.l1 k x1 x5 (⟨#[]⟩ : ByteArray) (⟨#[]⟩ : ByteArray) 0) else (if x0 = 4 then (domesdayref03_Quote.j6 k x0 x1 x5 (⟨#[]⟩ : ByteArray) false) else (domesdayref03_Quote.j6 k x0 x1 x5 (⟨#[]⟩ : ByteArray) (x0 != 5))))
def domesdayref03_Quote.l1 : Nat → ByteArray → List Int → ByteArray → ByteArray → Int → Option (ByteArray)
  | 0, _, _, _, _, _ => none
  | k + 1, x1, x5, x9, x10, x11 => if x11 < (x1.size : Int) then (if 0 ≤ x11 then (if x11 < (x5.length : Int) then (if (rd x5 x11) = 2 then ((domesdayref03_Escape.f (bt x1 x11)).bind fun t155 => (if x10.size + t155.size ≤ 9223372036854775807 then (domesdayref03_Quote.j4 k x1 x5 x9 (x10 ++ t155) x11) else (none))) else (if x11 ≤ (wrap64 (x11 + 1)) then (if (wrap64 (x11 + 1)) ≤ (x1.size : Int) then (if x10.size + (x1.extract (x11 : Int).toNat ((wrap64 (x11 + 1)) : Int).toNat).size ≤ 9223372036854775807 then (domesdayref03_Quote.j4 k x1 x5 x9 (x10 ++ (x1.extract (x11 : Int).toNat ((wrap64 (x11 + 1)) : Int).toNat)) x11) else (none)) else (none)) else (none))) else (none)) else (none)) else (some x9)
def domesdayref03_Quote.j4 : Nat → ByteArray → List Int → ByteArray → ByteArray → Int → Option (ByteArray)
  | 0, _, _, _, _, _ => none
  | k + 1, x1, x5, x9, x10, x11 => if (wrap64 (x11 + 1)) = (x1.size : Int) then (domesdayref03_Quote.j5 k x1 x5 x9 x10 x11 true) else (if 0 ≤ (wrap64 (x11 + 1)) then (if (wrap64 (x11 + 1)) < (x5.length : Int) then (if 0 ≤ x11 then (if x11 < (x5.length : Int) then (domesdayref03_Quote.j5 k x1 x5 x9 x10 x11 (((rd x5 (wrap64 (x11 + 1))) == 2) != ((rd x5 x11) == 2))) else (none)) else (none)) else (none)) else (none))
def domesdayref03_Quote.j5 : Nat → ByteArray → List Int → ByteArray → ByteArray → Int → Bool → Option (ByteArray)
  | 0, _, _, _, _, _, _ => none
  | k + 1, x1, x5, x9, x10, x11, x115 => if x115 = true then (if 0 ≤ x11 then (if x11 < (x5.length : Int) then (if (rd x5 x11) = 2 then (if 2 + x10.size ≤ 9223372036854775807 then (if 2 + x10.size + 1 ≤ 9223372036854775807 then (if x9.size + (2 + x10.size + 1) ≤ 9223372036854775807 then (domesdayref03_Quote.l1 k x1 x5 (x9 ++ (((⟨#[36, 39]⟩ : ByteArray) ++ x10) ++ (⟨#[39]⟩ : ByteArray))) (⟨#[]⟩ : ByteArray) (wrap64 (x11 + 1))) else (none)) else (none)) else (none)) else ((domesdayref03_Always.f k x10).bind fun t159 => (if x9.size + t159.size ≤ 9223372036854775807 then (domesdayref03_Quote.l1 k x1 x5 (x9 ++ t159) (⟨#[]⟩ : ByteArray) (wrap64 (x11 + 1))) else (none)))) else (none)) else (none)) else (domesdayref03_Quote.l1 k x1 x5 x9 x10 (wrap64 (x11 + 1)))
def domesdayref03_Quote.j6 : Nat → Int → ByteArray → List Int → ByteArray → Bool → Option (ByteArray)
  | 0, _, _, _, _, _ => none
  | k + 1, x0, x1, x5, x9, x136 => if x136 = true then (some (⟨#[]⟩ : ByteArray)) else (domesdayref03_Quote.l2 k x0 x1 x5 x9 0)
def domesdayref03_Quote.l2 : Nat → Int → ByteArray → List Int → ByteArray → Int → Option (ByteArray)
  | 0, _, _, _, _, _ => none
  | k + 1, x0, x1, x5, x9, x12 => if x12 < (x1.size : Int) then (if 0 ≤ x12 then (if x12 < (x5.length : Int) then (if (rd x5 x12) = 2 then ((domesdayref03_Escape.f (bt x1 x12)).bind fun t161 => (if x9.size + t161.size ≤ 9223372036854775807 then (domesdayref03_Quote.l2 k x0 x1 x5 (x9 ++ t161) (wrap64 (x12 + 1))) else (none))) else (if (bt x1 x12) = 92 then (if x9.size + 1 ≤ 9223372036854775807 then (if x12 ≤ (wrap64 (x12 + 1)) then (if (wrap64 (x12 + 1)) ≤ (x1.size : Int) then (if x9.size + 1 + (x1.extract (x12 : Int).toNat ((wrap64 (x12 + 1)) : Int).toNat).size ≤ 9223372036854775807 then (domesdayref03_Quote.l2 k x0 x1 x5 ((x9 ++ (⟨#[92]⟩ : ByteArray)) ++ (x1.extract (x12 : Int).toNat ((wrap64 (x12 + 1)) : Int).toNat)) (wrap64 (x12 + 1))) else (none)) else (none)) else (none)) else (none)) else (if (bt x1 x12) = 34 then (if x0 = 4 then (if x9.size + 1 ≤ 9223372036854775807 then (if x12 ≤ (wrap64 (x12 + 1)) then (if (wrap64 (x12 + 1)) ≤ (x1.size : Int) then (if x9.size + 1 + (x1.extract (x12 : Int).toNat ((wrap64 (x12 + 1)) : Int).toNat).size ≤ 9223372036854775807 then (domesdayref03_Quote.l2 k x0 x1 x5 ((x9 ++ (⟨#[92]⟩ : ByteArray)) ++ (x1.extract (x12 : Int).toNat ((wrap64 (x12 + 1)) : Int).toNat)) (wrap64 (x12 + 1))) else (none)) else (none)) else (none)) else (none)) else (if (bt x1 x12) = 32 then (if x0 = 5 then (if x9.size + 1 ≤ 9223372036854775807 then (if x12 ≤ (wrap64 (x12 + 1)) then (if (wrap64 (x12 + 1)) ≤ (x1.size : Int) then (if x9.size + 1 + (x1.extract (x12 : Int).toNat ((wrap64 (x12 + 1)) : Int).toNat).size ≤ 9223372036854775807 then (domesdayref03_Quote.l2 k x0 x1 x5 ((x9 ++ (⟨#[92]⟩ : ByteArray)) ++ (x1.extract (x12 : Int).toNat ((wrap64 (x12 + 1)) : Int).toNat)) (wrap64 (x12 + 1))) else (none)) else (none)) else (none)) else (none)) else (if x12 ≤ (wrap64 (x12 + 1)) then (if (wrap64 (x12 + 1)) ≤ (x1.size : Int) then (if x9.size + (x1.extract (x12 : Int).toNat ((wrap64 (x12 + 1)) : Int).toNat).size ≤ 9223372036854775807 then (domesdayref03_Quote.l2 k x0 x1 x5 (x9 ++ (x1.extract (x12 : Int).toNat ((wrap64 (x12 + 1)) : Int).toNat)) (wrap64 (x12 + 1))) else (none)) else (none)) else (none))) else (if x12 ≤ (wrap64 (x12 + 1)) then (if (wrap64 (x12 + 1)) ≤ (x1.size : Int) then (if x9.size + (x1.extract (x12 : Int).toNat ((wrap64 (x12 + 1)) : Int).toNat).size ≤ 9223372036854775807 then (domesdayref03_Quote.l2 k x0 x1 x5 (x9 ++ (x1.extract (x12 : Int).toNat ((wrap64 (x12 + 1)) : Int).toNat)) (wrap64 (x12 + 1))) else (none)) else (none)) else (none)))) else (if (bt x1 x12) = 32 then (if x0 = 5 then (if x9.size + 1 ≤ 9223372036854775807 then (if x12 ≤ (wrap64 (x12 + 1)) then (if (wrap64 (x12 + 1)) ≤ (x1.size : Int) then (if x9.size + 1 + (x1.extract (x12 : Int).toNat ((wrap64 (x12 + 1)) : Int).toNat).size ≤ 9223372036854775807 then (domesdayref03_Quote.l2 k x0 x1 x5 ((x9 ++ (⟨#[92]⟩ : ByteArray)) ++ (x1.extract (x12 : Int).toNat ((wrap64 (x12 + 1)) : Int).toNat)) (wrap64 (x12 + 1))) else (none)) else (none)) else (none)) else (none)) else (if x12 ≤ (wrap64 (x12 + 1)) then (if (wrap64 (x12 + 1)) ≤ (x1.size : Int) then (if x9.size + (x1.extract (x12 : Int).toNat ((wrap64 (x12 + 1)) : Int).toNat).size ≤ 9223372036854775807 then (domesdayref03_Quote.l2 k x0 x1 x5 (x9 ++ (x1.extract (x12 : Int).toNat ((wrap64 (x12 + 1)) : Int).toNat)) (wrap64 (x12 + 1))) else (none)) else (none)) else (none))) else (if x12 ≤ (wrap64 (x12 + 1)) then (if (wrap64 (x12 + 1)) ≤ (x1.size : Int) then (if x9.size + (x1.extract (x12 : Int).toNat ((wrap64 (x12 + 1)) : Int).toNat).size ≤ 9223372036854775807 then (domesdayref03_Quote.l2 k x0 x1 x5 (x9 ++ (x1.extract (x12 : Int).toNat ((wrap64 (x12 + 1)) : Int).toNat)) (wrap64 (x12 + 1))) else (none)) else (none)) else (none)))))) else (none)) else (none)) else (if x0 = 4 then (if 1 + x9.size ≤ 9223372036854775807 then (if 1 + x9.size + 1 ≤ 9223372036854775807 then (some (((⟨#[34]⟩ : ByteArray) ++ x9) ++ (⟨#[34]⟩ : ByteArray))) else (none)) else (none)) else (some x9))
end
def domesdayref03_Quote.f (k : Nat) (a0 : Int) (a1 : ByteArray) : Option (ByteArray) := (domesdayref03_Kinds.f k a1).bind fun t147 => (domesdayref03_Quote.l0 k a0 a1 t147 (decide ((a1.size : Int) > 0)) false 0)
theorem domesdayref03_Quote.mono_l : ∀ k, (∀ y0 y1 y2 y3 y4 y5, LeO (domesdayref03_Quote.l0 k y0 y1 y2 y3 y4 y5) (domesdayref03_Quote.l0 (k + 1) y0 y1 y2 y3 y4 y5)) ∧ (∀ y0 y1 y2 y3 y4, LeO (domesdayref03_Quote.j1 k y0 y1 y2 y3 y4) (domesdayref03_Quote.j1 (k + 1) y0 y1 y2 y3 y4)) ∧ (∀ y0 y1 y2 y3, LeO (domesdayref03_Quote.j2 k y0 y1 y2 y3) (domesdayref03_Quote.j2 (k + 1) y0 y1 y2 y3)) ∧ (∀ y0 y1 y2 y3 y4, LeO (domesdayref03_Quote.l1 k y0 y1 y2 y3 y4) (domesdayref03_Quote.l1 (k + 1) y0 y1 y2 y3 y4)) ∧ (∀ y0 y1 y2 y3 y4, LeO (domesdayref03_Quote.j4 k y0 y1 y2 y3 y4) (domesdayref03_Quote.j4 (k + 1) y0 y1 y2 y3 y4)) ∧ (∀ y0 y1 y2 y3 y4 y5, LeO (domesdayref03_Quote.j5 k y0 y1 y2 y3 y4 y5) (domesdayref03_Quote.j5 (k + 1) y0 y1 y2 y3 y4 y5)) ∧ (∀ y0 y1 y2 y3 y4, LeO (domesdayref03_Quote.j6 k y0 y1 y2 y3 y4) (domesdayref03_Quote.j6 (k + 1) y0 y1 y2 y3 y4)) ∧ (∀ y0 y1 y2 y3 y4, LeO (domesdayref03_Quote.l2 k y0 y1 y2 y3 y4) (domesdayref03_Quote.l2 (k + 1) y0 y1 y2 y3 y4))
  | 0 => ⟨fun _ _ _ _ _ _ r h => by simp [domesdayref03_Quote.l0] at h, fun _ _ _ _ _ r h => by simp [domesdayref03_Quote.j1] at h, fun _ _ _ _ r h => by simp [domesdayref03_Quote.j2] at h, fun _ _ _ _ _ r h => by simp [domesdayref03_Quote.l1] at h, fun _ _ _ _ _ r h => by simp [domesdayref03_Quote.j4] at h, fun _ _ _ _ _ _ r h => by simp [domesdayref03_Quote.j5] at h, fun _ _ _ _ _ r h => by simp [domesdayref03_Quote.j6] at h, fun _ _ _ _ _ r h => by simp [domesdayref03_Quote.l2] at h⟩
  | k + 1 => by
    obtain ⟨ih0, ih1, ih2, ih3, ih4, ih5, ih6, ih7⟩ := domesdayref03_Quote.mono_l k
    refine ⟨?_, ?_, ?_, ?_, ?_, ?_, ?_, ?_⟩
    · intro y0 y1 y2 y3 y4 y5
      unfold domesdayref03_Quote.l0
      repeat' first
      | (with_reducible exact ih0 _ _ _ _ _ _)
      | (with_reducible exact ih1 _ _ _ _ _)
      | (with_reducible exact ih2 _ _ _ _)
      | (with_reducible exact ih3 _ _ _ _ _)
      | (with_reducible exact ih4 _ _ _ _ _)
      | (with_reducible exact ih5 _ _ _ _ _ _)
      | (with_reducible exact ih6 _ _ _ _ _)
      | (with_reducible exact ih7 _ _ _ _ _)
      | (with_reducible exact domesdayref03_Always.mono _ _)
      | (with_reducible exact domesdayref03_Kinds.mono _ _)
      | (with_reducible exact LeO.refl _)
      | (with_reducible exact LeO.none _)
      | (with_reducible refine LeO.ite ?_ ?_)
      | (with_reducible refine LeO.bind ?_ (fun _ => ?_))
      | exact ih0 _ _ _ _ _ _
      | exact ih1 _ _ _ _ _
      | exact ih2 _ _ _ _
      | exact ih3 _ _ _ _ _
      | exact ih4 _ _ _ _ _
      | exact ih5 _ _ _ _ _ _
      | exact ih6 _ _ _ _ _
      | exact ih7 _ _ _ _ _
      | exact domesdayref03_Always.mono _ _
      | exact domesdayref03_Kinds.mono _ _
      | exact LeO.none _
      | refine LeO.ite ?_ ?_
      | refine LeO.bind ?_ (fun _ => ?_)
    · intro y0 y1 y2 y3 y4
      unfold domesdayref03_Quote.j1
      repeat' first
      | (with_reducible exact ih0 _ _ _ _ _ _)
      | (with_reducible exact ih1 _ _ _ _ _)
      | (with_reducible exact ih2 _ _ _ _)
      | (with_reducible exact ih3 _ _ _ _ _)
      | (with_reducible exact ih4 _ _ _ _ _)
      | (with_reducible exact ih5 _ _ _ _ _ _)
      | (with_reducible exact ih6 _ _ _ _ _)
      | (with_reducible exact ih7 _ _ _ _ _)
      | (with_reducible exact domesdayref03_Always.mono _ _)
      | (with_reducible exact domesdayref03_Kinds.mono _ _)
      | (with_reducible exact LeO.refl _)
      | (with_reducible exact LeO.none _)
      | (with_reducible refine LeO.ite ?_ ?_)
      | (with_reducible refine LeO.bind ?_ (fun _ => ?_))
      | exact ih0 _ _ _ _ _ _
      | exact ih1 _ _ _ _ _
      | exact ih2 _ _ _ _
      | exact ih3 _ _ _ _ _
      | exact ih4 _ _ _ _ _
      | exact ih5 _ _ _ _ _ _
      | exact ih6 _ _ _ _ _
      | exact ih7 _ _ _ _ _
      | exact domesdayref03_Always.mono _ _
      | exact domesdayref03_Kinds.mono _ _
      | exact LeO.none _
      | refine LeO.ite ?_ ?_
      | refine LeO.bind ?_ (fun _ => ?_)
    · intro y0 y1 y2 y3
      unfold domesdayref03_Quote.j2
      repeat' first
      | (with_reducible exact ih0 _ _ _ _ _ _)
      | (with_reducible exact ih1 _ _ _ _ _)
      | (with_reducible exact ih2 _ _ _ _)
      | (with_reducible exact ih3 _ _ _ _ _)
      | (with_reducible exact ih4 _ _ _ _ _)
      | (with_reducible exact ih5 _ _ _ _ _ _)
      | (with_reducible exact ih6 _ _ _ _ _)
      | (with_reducible exact ih7 _ _ _ _ _)
      | (with_reducible exact domesdayref03_Always.mono _ _)
      | (with_reducible exact domesdayref03_Kinds.mono _ _)
      | (with_reducible exact LeO.refl _)
      | (with_reducible exact LeO.none _)
      | (with_reducible refine LeO.ite ?_ ?_)
      | (with_reducible refine LeO.bind ?_ (fun _ => ?_))
      | exact ih0 _ _ _ _ _ _
      | exact ih1 _ _ _ _ _
      | exact ih2 _ _ _ _
      | exact ih3 _ _ _ _ _
      | exact ih4 _ _ _ _ _
      | exact ih5 _ _ _ _ _ _
      | exact ih6 _ _ _ _ _
      | exact ih7 _ _ _ _ _
      | exact domesdayref03_Always.mono _ _
      | exact domesdayref03_Kinds.mono _ _
      | exact LeO.none _
      | refine LeO.ite ?_ ?_
      | refine LeO.bind ?_ (fun _ => ?_)
    · intro y0 y1 y2 y3 y4
      unfold domesdayref03_Quote.l1
      repeat' first
      | (with_reducible exact ih0 _ _ _ _ _ _)
      | (with_reducible exact ih1 _ _ _ _ _)
      | (with_reducible exact ih2 _ _ _ _)
      | (with_reducible exact ih3 _ _ _ _ _)
      | (with_reducible exact ih4 _ _ _ _ _)
      | (with_reducible exact ih5 _ _ _ _ _ _)
      | (with_reducible exact ih6 _ _ _ _ _)
      | (with_reducible exact ih7 _ _ _ _ _)
      | (with_reducible exact domesdayref03_Always.mono _ _)
      | (with_reducible exact domesdayref03_Kinds.mono _ _)
      | (with_reducible exact LeO.refl _)
      | (with_reducible exact LeO.none _)
      | (with_reducible refine LeO.ite ?_ ?_)
      | (with_reducible refine LeO.bind ?_ (fun _ => ?_))
      | exact ih0 _ _ _ _ _ _
      | exact ih1 _ _ _ _ _
      | exact ih2 _ _ _ _
      | exact ih3 _ _ _ _ _
      | exact ih4 _ _ _ _ _
      | exact ih5 _ _ _ _ _ _
      | exact ih6 _ _ _ _ _
      | exact ih7 _ _ _ _ _
      | exact domesdayref03_Always.mono _ _
      | exact domesdayref03_Kinds.mono _ _
      | exact LeO.none _
      | refine LeO.ite ?_ ?_
      | refine LeO.bind ?_ (fun _ => ?_)
    · intro y0 y1 y2 y3 y4
      unfold domesdayref03_Quote.j4
      repeat' first
      | (with_reducible exact ih0 _ _ _ _ _ _)
      | (with_reducible exact ih1 _ _ _ _ _)
      | (with_reducible exact ih2 _ _ _ _)
      | (with_reducible exact ih3 _ _ _ _ _)
      | (with_reducible exact ih4 _ _ _ _ _)
      | (with_reducible exact ih5 _ _ _ _ _ _)
      | (with_reducible exact ih6 _ _ _ _ _)
      | (with_reducible exact ih7 _ _ _ _ _)
      | (with_reducible exact domesdayref03_Always.mono _ _)
      | (with_reducible exact domesdayref03_Kinds.mono _ _)
      | (with_reducible exact LeO.refl _)
      | (with_reducible exact LeO.none _)
      | (with_reducible refine LeO.ite ?_ ?_)
      | (with_reducible refine LeO.bind ?_ (fun _ => ?_))
      | exact ih0 _ _ _ _ _ _
      | exact ih1 _ _ _ _ _
      | exact ih2 _ _ _ _
      | exact ih3 _ _ _ _ _
      | exact ih4 _ _ _ _ _
      | exact ih5 _ _ _ _ _ _
      | exact ih6 _ _ _ _ _
      | exact ih7 _ _ _ _ _
      | exact domesdayref03_Always.mono _ _
      | exact domesdayref03_Kinds.mono _ _
      | exact LeO.none _
      | refine LeO.ite ?_ ?_
      | refine LeO.bind ?_ (fun _ => ?_)
    · intro y0 y1 y2 y3 y4 y5
      unfold domesdayref03_Quote.j5
      repeat' first
      | (with_reducible exact ih0 _ _ _ _ _ _)
      | (with_reducible exact ih1 _ _ _ _ _)
      | (with_reducible exact ih2 _ _ _ _)
      | (with_reducible exact ih3 _ _ _ _ _)
      | (with_reducible exact ih4 _ _ _ _ _)
      | (with_reducible exact ih5 _ _ _ _ _ _)
      | (with_reducible exact ih6 _ _ _ _ _)
      | (with_reducible exact ih7 _ _ _ _ _)
      | (with_reducible exact domesdayref03_Always.mono _ _)
      | (with_reducible exact domesdayref03_Kinds.mono _ _)
      | (with_reducible exact LeO.refl _)
      | (with_reducible exact LeO.none _)
      | (with_reducible refine LeO.ite ?_ ?_)
      | (with_reducible refine LeO.bind ?_ (fun _ => ?_))
      | exact ih0 _ _ _ _ _ _
      | exact ih1 _ _ _ _ _
      | exact ih2 _ _ _ _
      | exact ih3 _ _ _ _ _
      | exact ih4 _ _ _ _ _
      | exact ih5 _ _ _ _ _ _
      | exact ih6 _ _ _ _ _
      | exact ih7 _ _ _ _ _
      | exact domesdayref03_Always.mono _ _
      | exact domesdayref03_Kinds.mono _ _
      | exact LeO.none _
      | refine LeO.ite ?_ ?_
      | refine LeO.bind ?_ (fun _ => ?_)
    · intro y0 y1 y2 y3 y4
      unfold domesdayref03_Quote.j6
      repeat' first
      | (with_reducible exact ih0 _ _ _ _ _ _)
      | (with_reducible exact ih1 _ _ _ _ _)
      | (with_reducible exact ih2 _ _ _ _)
      | (with_reducible exact ih3 _ _ _ _ _)
      | (with_reducible exact ih4 _ _ _ _ _)
      | (with_reducible exact ih5 _ _ _ _ _ _)
      | (with_reducible exact ih6 _ _ _ _ _)
      | (with_reducible exact ih7 _ _ _ _ _)
      | (with_reducible exact domesdayref03_Always.mono _ _)
      | (with_reducible exact domesdayref03_Kinds.mono _ _)
      | (with_reducible exact LeO.refl _)
      | (with_reducible exact LeO.none _)
      | (with_reducible refine LeO.ite ?_ ?_)
      | (with_reducible refine LeO.bind ?_ (fun _ => ?_))
      | exact ih0 _ _ _ _ _ _
      | exact ih1 _ _ _ _ _
      | exact ih2 _ _ _ _
      | exact ih3 _ _ _ _ _
      | exact ih4 _ _ _ _ _
      | exact ih5 _ _ _ _ _ _
      | exact ih6 _ _ _ _ _
      | exact ih7 _ _ _ _ _
      | exact domesdayref03_Always.mono _ _
      | exact domesdayref03_Kinds.mono _ _
      | exact LeO.none _
      | refine LeO.ite ?_ ?_
      | refine LeO.bind ?_ (fun _ => ?_)
    · intro y0 y1 y2 y3 y4
      unfold domesdayref03_Quote.l2
      repeat' first
      | (with_reducible exact ih0 _ _ _ _ _ _)
      | (with_reducible exact ih1 _ _ _ _ _)
      | (with_reducible exact ih2 _ _ _ _)
      | (with_reducible exact ih3 _ _ _ _ _)
      | (with_reducible exact ih4 _ _ _ _ _)
      | (with_reducible exact ih5 _ _ _ _ _ _)
      | (with_reducible exact ih6 _ _ _ _ _)
      | (with_reducible exact ih7 _ _ _ _ _)
      | (with_reducible exact domesdayref03_Always.mono _ _)
      | (with_reducible exact domesdayref03_Kinds.mono _ _)
      | (with_reducible exact LeO.refl _)
      | (with_reducible exact LeO.none _)
      | (with_reducible refine LeO.ite ?_ ?_)
      | (with_reducible refine LeO.bind ?_ (fun _ => ?_))
      | exact ih0 _ _ _ _ _ _
      | exact ih1 _ _ _ _ _
      | exact ih2 _ _ _ _
      | exact ih3 _ _ _ _ _
      | exact ih4 _ _ _ _ _
      | exact ih5 _ _ _ _ _ _
      | exact ih6 _ _ _ _ _
      | exact ih7 _ _ _ _ _
      | exact domesdayref03_Always.mono _ _
      | exact domesdayref03_Kinds.mono _ _
      | exact LeO.none _
      | refine LeO.ite ?_ ?_
      | refine LeO.bind ?_ (fun _ => ?_)
theorem domesdayref03_Quote.mono : ∀ a0 a1 k, LeO (domesdayref03_Quote.f k a0 a1) (domesdayref03_Quote.f (k + 1) a0 a1) := by
  intro a0 a1 k
  obtain ⟨ih0, ih1, ih2, ih3, ih4, ih5, ih6, ih7⟩ := domesdayref03_Quote.mono_l k
  unfold domesdayref03_Quote.f
  repeat' first
      | (with_reducible exact ih0 _ _ _ _ _ _)
      | (with_reducible exact ih1 _ _ _ _ _)
      | (with_reducible exact ih2 _ _ _ _)
      | (with_reducible exact ih3 _ _ _ _ _)
      | (with_reducible exact ih4 _ _ _ _ _)
      | (with_reducible exact ih5 _ _ _ _ _ _)
      | (with_reducible exact ih6 _ _ _ _ _)
      | (with_reducible exact ih7 _ _ _ _ _)
      | (with_reducible exact domesdayref03_Always.mono _ _)
      | (with_reducible exact domesdayref03_Kinds.mono _ _)
      | (with_reducible exact LeO.refl _)
      | (with_reducible exact LeO.none _)
      | (with_reducible refine LeO.ite ?_ ?_)
      | (with_reducible refine LeO.bind ?_ (fun _ => ?_))
      | exact ih0 _ _ _ _ _ _
      | exact ih1 _ _ _ _ _
      | exact ih2 _ _ _ _
      | exact ih3 _ _ _ _ _
      | exact ih4 _ _ _ _ _
      | exact ih5 _ _ _ _ _ _
      | exact ih6 _ _ _ _ _
      | exact ih7 _ _ _ _ _
      | exact domesdayref03_Always.mono _ _
      | exact domesdayref03_Kinds.mono _ _
      | exact LeO.none _
      | refine LeO.ite ?_ ?_
      | refine LeO.bind ?_ (fun _ => ?_)
set_option maxHeartbeats 8000000 in
set_option maxRecDepth 100000 in
theorem domesdayref03_Quote.calls (k : Nat) (a0 : Int) (a1 : ByteArray) (r : ByteArray) (w : World) (h : domesdayref03_Quote.f k a0 a1 = some r) :
    Calls Tryd.prog 10 #[.int .i64 a0, .string a1] w fun e w' => e = .returned (.string r) ∧ Below w.heap.size w w' := by
  have HB := Aside0.mk (Below.refl w.heap.size w)
  have H : ((domesdayref03_Kinds.f k a1).bind fun t147 => (domesdayref03_Quote.l0 k a0 a1 t147 (decide ((a1.size : Int) > 0)) false 0)) = some r := h
  clear h
  replace H := Option.bind_eq_some_iff.mp H
  obtain ⟨t147, A30, H⟩ := H
  replace H : (domesdayref03_Quote.l0 k a0 a1 t147 (decide ((a1.size : Int) > 0)) false 0) = some r := H
  have A3 := Aside0.mk A30
  clear A30
  have H' := Aside0.mk H
  clear H
  go_enter Tryd.func10, Tryd.ntmps10
  go_wp2_with (first | (go_at_call 11; (with_reducible refine (domesdayref03_Kinds.calls k a1 t147 _ A3.out).mono ?_); rintro e w4 ⟨v148, rfl, ho0, hb⟩; have n0_ := Aside0.mk (Kd.R_lower ho0 (below_size (by repeat (first | (with_reducible first | exact HB.out | apply below_alloc | apply pw_below_drewN | apply below_drew1) | exact HB.out)))); have n1_ := Aside0.mk (below_step (by repeat (first | (with_reducible first | exact HB.out | apply below_alloc | apply pw_below_drewN | apply below_drew1) | exact HB.out)) hb); clear HB; have HO149 := n0_; have HB := n1_; clear n0_ n1_; (try clear hb); (try clear hb2); (try clear hk); (try clear hi); (try clear ho0)))
  repeat (go_quiet (first | (go_at_call 11; (with_reducible refine (domesdayref03_Kinds.calls k a1 t147 _ A3.out).mono ?_); rintro e w4 ⟨v148, rfl, ho0, hb⟩; have n0_ := Aside0.mk (Kd.R_lower ho0 (below_size (by repeat (first | (with_reducible first | exact HB.out | apply below_alloc | apply pw_below_drewN | apply below_drew1) | exact HB.out)))); have n1_ := Aside0.mk (below_step (by repeat (first | (with_reducible first | exact HB.out | apply below_alloc | apply pw_below_drewN | apply below_drew1) | exact HB.out)) hb); clear HB; have HO149 := n0_; have HB := n1_; clear n0_ n1_; (try clear hb); (try clear hb2); (try clear hk); (try clear hi); (try clear ho0))); try go_wp2_with (first | (go_at_call 11; (with_reducible refine (domesdayref03_Kinds.calls k a1 t147 _ A3.out).mono ?_); rintro e w4 ⟨v148, rfl, ho0, hb⟩; have n0_ := Aside0.mk (Kd.R_lower ho0 (below_size (by repeat (first | (with_reducible first | exact HB.out | apply below_alloc | apply pw_below_drewN | apply below_drew1) | exact HB.out)))); have n1_ := Aside0.mk (below_step (by repeat (first | (with_reducible first | exact HB.out | apply below_alloc | apply pw_below_drewN | apply below_drew1) | exact HB.out)) hb); clear HB; have HO149 := n0_; have HB := n1_; clear n0_ n1_; (try clear hb); (try clear hb2); (try clear hk); (try clear hi); (try clear ho0))))
  go_loopg [6, 7, 8] k (fun kq v6 v7 v8 w' => ∃ (x6_1 : Bool) (x7_1 : Bool) (x8_1 : Int), v6 = .bool x6_1 ∧ v7 = .bool x7_1 ∧ v8 = .int .i64 x8_1 ∧ Aside0 (domesdayref03_Quote.l0 kq a0 a1 t147 x6_1 x7_1 x8_1 = some r) ∧ Aside0 (kq ≤ k) ∧ Aside0 (Kd.R (Kd.int .i64) 3 w' w.heap.size (fun _ => True) v148 t147) ∧ Aside0 (Below w.heap.size w w'))
  case atStart => exact ⟨(decide ((a1.size : Int) > 0)), (false), (0), (by first | rfl | (simp; done) | (simp [*]; done)), (by first | rfl | (simp; done) | (simp [*]; done)), (by first | rfl | (simp; done) | (simp [*]; done)), H', ⟨Nat.le_refl _⟩, ⟨by (with_reducible repeat (first | apply Kd.R_alloc | apply Kd.R_drewN | apply Kd.R_drew)); exact HO149.out⟩, ⟨by repeat (first | (with_reducible first | exact HB.out | apply below_alloc | apply pw_below_drewN | apply below_drew1) | exact HB.out)⟩⟩
  case round =>
    clear H'
    try clear c1
    try clear p2
    obtain ⟨x6_1, x7_1, x8_1, rfl, rfl, rfl, HA, HK1, HO_5, HB⟩ := hrel
    cases gk with
    | zero => exact absurd HA.out (by simp [domesdayref03_Quote.l0])
    | succ k1 =>
      have H := HA.out
      clear HA
      simp only [domesdayref03_Quote.l0] at H
      by_cases c5 : x8_1 < (t147.length : Int)
      · rw [if_pos c5] at H
        have c5b0 : decide (x8_1 < (t147.length : Int)) = true := decide_eq_true c5
        clear c5
        by_cases c6 : x6_1 = true
        · subst c6
          have H1 : (if 0 ≤ x8_1 then (if x7_1 = true then (domesdayref03_Quote.l0 k1 a0 a1 t147 ((rd t147 x8_1) == 1) true (wrap64 (x8_1 + 1))) else (domesdayref03_Quote.l0 k1 a0 a1 t147 ((rd t147 x8_1) == 1) ((rd t147 x8_1) == 2) (wrap64 (x8_1 + 1)))) else (none)) = some r := by rw [if_pos rfl] at H; exact H
          clear H
          have H := H1
          clear H1
          by_cases c7 : 0 ≤ x8_1
          · rw [if_pos c7] at H
            have c7b0 : decide (0 ≤ x8_1) = true := decide_eq_true c7
            clear c7
            by_cases c8 : x7_1 = true
            · subst c8
              have H1 : (domesdayref03_Quote.l0 k1 a0 a1 t147 ((rd t147 x8_1) == 1) true (wrap64 (x8_1 + 1))) = some r := by rw [if_pos rfl] at H; exact H
              clear H
              have H := H1
              clear H1
              have H' := Aside0.mk H
              clear H
              obtain ⟨Ao9, co9, eo9⟩ := Kd.R_slice HO_5.out
              subst eo9
              have p150 : 0 ≤ (x8_1 : Int) := of_decide_eq_true (by first | (with_reducible assumption) | assumption)
              have q150 : x8_1 < (t147.length : Int) := of_decide_eq_true (by first | (with_reducible assumption) | assumption)
              obtain ⟨ad150, e150, hx150_0⟩ := Kd.at_int (Kd.R_reads' HO_5.out).2.2 x8_1 p150 q150
              cases e150
              replace p150 := eq_true p150
              replace q150 := eq_true q150
              go_wp2
              repeat (go_quiet (fail); try go_wp2)
              go_roundg k1
              case measure => have := HK1.out; omega
              case rel => exact ⟨(((rd t147 x8_1) == 1)), (true), (wrap64 (x8_1 + 1)), (by first | rfl | (simp; done) | (simp [*]; done)), (by first | rfl | (simp; done) | (simp [*]; done)), (by first | rfl | (simp; done) | (simp [*]; done)), H', ⟨by have := HK1.out; omega⟩, ⟨by (with_reducible repeat (first | apply Kd.R_alloc | apply Kd.R_drewN | apply Kd.R_drew)); exact HO_5.out⟩, ⟨by repeat (first | (with_reducible first | exact HB.out | apply below_alloc | apply pw_below_drewN | apply below_drew1) | exact HB.out)⟩⟩
            · replace c8 := Bool.eq_false_iff.mpr c8
              subst c8
              have H1 : (domesdayref03_Quote.l0 k1 a0 a1 t147 ((rd t147 x8_1) == 1) ((rd t147 x8_1) == 2) (wrap64 (x8_1 + 1))) = some r := by rw [if_neg (show ¬ (false = true) by decide)] at H; exact H
              clear H
              have H := H1
              clear H1
              have H' := Aside0.mk H
              clear H
              obtain ⟨Ao10, co10, eo10⟩ := Kd.R_slice HO_5.out
              subst eo10
              have p150 : 0 ≤ (x8_1 : Int) := of_decide_eq_true (by first | (with_reducible assumption) | assumption)
              have q150 : x8_1 < (t147.length : Int) := of_decide_eq_true (by first | (with_reducible assumption) | assumption)
              obtain ⟨ad150, e150, hx150_0⟩ := Kd.at_int (Kd.R_reads' HO_5.out).2.2 x8_1 p150 q150
              cases e150
              replace p150 := eq_true p150
              replace q150 := eq_true q150
              have p151 : 0 ≤ (x8_1 : Int) := of_decide_eq_true (by first | (with_reducible assumption) | assumption)
              have q151 : x8_1 < (t147.length : Int) := of_decide_eq_true (by first | (with_reducible assumption) | assumption)
              obtain ⟨ad151, e151, hx151_0⟩ := Kd.at_int (Kd.R_reads' HO_5.out).2.2 x8_1 p151 q151
              obtain rfl : ad150 = ad151 := (by injection e151)
              replace p151 := eq_true p151
              replace q151 := eq_true q151
              go_wp2
              repeat (go_quiet (fail); try go_wp2)
              go_roundg k1
              case measure => have := HK1.out; omega
              case rel => exact ⟨(((rd t147 x8_1) == 1)), (((rd t147 x8_1) == 2)), (wrap64 (x8_1 + 1)), (by first | rfl | (simp; done) | (simp [*]; done)), (by first | rfl | (simp; done) | (simp [*]; done)), (by first | rfl | (simp; done) | (simp [*]; done)), H', ⟨by have := HK1.out; omega⟩, ⟨by (with_reducible repeat (first | apply Kd.R_alloc | apply Kd.R_drewN | apply Kd.R_drew)); exact HO_5.out⟩, ⟨by repeat (first | (with_reducible first | exact HB.out | apply below_alloc | apply pw_below_drewN | apply below_drew1) | exact HB.out)⟩⟩
          · rw [if_neg c7] at H
            exact absurd H (by simp)
        · replace c6 := Bool.eq_false_iff.mpr c6
          subst c6
          have H1 : (if x7_1 = true then (domesdayref03_Quote.l0 k1 a0 a1 t147 false true (wrap64 (x8_1 + 1))) else (if 0 ≤ x8_1 then (domesdayref03_Quote.l0 k1 a0 a1 t147 false ((rd t147 x8_1) == 2) (wrap64 (x8_1 + 1))) else (none))) = some r := by rw [if_neg (show ¬ (false = true) by decide)] at H; exact H
          clear H
          have H := H1
          clear H1
          by_cases c11 : x7_1 = true
          · subst c11
            have H1 : (domesdayref03_Quote.l0 k1 a0 a1 t147 false true (wrap64 (x8_1 + 1))) = some r := by rw [if_pos rfl] at H; exact H
            clear H
            have H := H1
            clear H1
            have H' := Aside0.mk H
            clear H
            obtain ⟨Ao12, co12, eo12⟩ := Kd.R_slice HO_5.out
            subst eo12
            go_wp2
            repeat (go_quiet (fail); try go_wp2)
            go_roundg k1
            case measure => have := HK1.out; omega
            case rel => exact ⟨(false), (true), (wrap64 (x8_1 + 1)), (by first | rfl | (simp; done) | (simp [*]; done)), (by first | rfl | (simp; done) | (simp [*]; done)), (by first | rfl | (simp; done) | (simp [*]; done)), H', ⟨by have := HK1.out; omega⟩, ⟨by (with_reducible repeat (first | apply Kd.R_alloc | apply Kd.R_drewN | apply Kd.R_drew)); exact HO_5.out⟩, ⟨by repeat (first | (with_reducible first | exact HB.out | apply below_alloc | apply pw_below_drewN | apply below_drew1) | exact HB.out)⟩⟩
          · replace c11 := Bool.eq_false_iff.mpr c11
            subst c11
            have H1 : (if 0 ≤ x8_1 then (domesdayref03_Quote.l0 k1 a0 a1 t147 false ((rd t147 x8_1) == 2) (wrap64 (x8_1 + 1))) else (none)) = some r := by rw [if_neg (show ¬ (false = true) by decide)] at H; exact H
            clear H
            have H := H1
            clear H1
            by_cases c13 : 0 ≤ x8_1
            · rw [if_pos c13] at H
              have c13b0 : decide (0 ≤ x8_1) = true := decide_eq_true c13
              clear c13
              have H' := Aside0.mk H
              clear H
              obtain ⟨Ao14, co14, eo14⟩ := Kd.R_slice HO_5.out
              subst eo14
              have p152 : 0 ≤ (x8_1 : Int) := of_decide_eq_true (by first | (with_reducible assumption) | assumption)
              have q152 : x8_1 < (t147.length : Int) := of_decide_eq_true (by first | (with_reducible assumption) | assumption)
              obtain ⟨ad152, e152, hx152_0⟩ := Kd.at_int (Kd.R_reads' HO_5.out).2.2 x8_1 p152 q152
              cases e152
              replace p152 := eq_true p152
              replace q152 := eq_true q152
              go_wp2
              repeat (go_quiet (fail); try go_wp2)
              go_roundg k1
              case measure => have := HK1.out; omega
              case rel => exact ⟨(false), (((rd t147 x8_1) == 2)), (wrap64 (x8_1 + 1)), (by first | rfl | (simp; done) | (simp [*]; done)), (by first | rfl | (simp; done) | (simp [*]; done)), (by first | rfl | (simp; done) | (simp [*]; done)), H', ⟨by have := HK1.out; omega⟩, ⟨by (with_reducible repeat (first | apply Kd.R_alloc | apply Kd.R_drewN | apply Kd.R_drew)); exact HO_5.out⟩, ⟨by repeat (first | (with_reducible first | exact HB.out | apply below_alloc | apply pw_below_drewN | apply below_drew1) | exact HB.out)⟩⟩
            · rw [if_neg c13] at H
              exact absurd H (by simp)
      · rw [if_neg c5] at H
        have c5b0 : decide (x8_1 < (t147.length : Int)) = false := decide_eq_false c5
        clear c5
        have HC15 := Aside0.mk H
        clear H
        obtain ⟨Ao16, co16, eo16⟩ := Kd.R_slice HO_5.out
        subst eo16
        go_upto_region 8 with (fail)
        repeat (go_quiet (fail); go_upto_region 8 with (fail))
        go_cut [53] (fun v53 wc => ∃ (kq : Nat) (x53_14 : Bool), v53 = .bool x53_14 ∧ Aside0 (domesdayref03_Quote.j1 kq a0 a1 t147 x7_1 x53_14 = some r) ∧ Aside0 (kq ≤ k1) ∧ Aside0 (Kd.R (Kd.int .i64) 3 wc w.heap.size (fun _ => True) (.slice Ao16 t147.length co16) t147) ∧ Aside0 (Below w.heap.size w wc))
        case first =>
          have H := HC15.out
          clear HC15
          by_cases c17 : a0 = 0
          · rw [if_pos c17] at H
            have c17b0 : (a0 == 0) = true := beq_iff_eq.mpr c17
            have c17b1 : (a0 != 0) = false := bne_eq_false_iff_eq.mpr c17
            clear c17
            (first | rw [c17b0] | (simp only [i64_w, i32_w]; rw [c17b0]) | skip)
            have H' := Aside0.mk H
            clear H
            go_wp2
            repeat (go_quiet (fail); try go_wp2)
            go_meet
            case rel => exact ⟨_, (true), (by first | rfl | (simp; done) | (simp [*]; done)), H', ⟨by have := HK1.out; first | omega | exact Nat.le_refl _⟩, ⟨by (with_reducible repeat (first | apply Kd.R_alloc | apply Kd.R_drewN | apply Kd.R_drew)); exact HO_5.out⟩, ⟨by repeat (first | (with_reducible first | exact HB.out | apply below_alloc | apply pw_below_drewN | apply below_drew1) | exact HB.out)⟩⟩
          · rw [if_neg c17] at H
            have c17b0 : (a0 == 0) = false := beq_eq_false_iff_ne.mpr c17
            have c17b1 : (a0 != 0) = true := bne_iff_ne.mpr c17
            (first | rw [c17b0] | (simp only [i64_w, i32_w]; rw [c17b0]) | skip)
            by_cases c18 : a0 = 1
            · rw [if_pos c18] at H
              have c18b0 : (a0 == 1) = true := beq_iff_eq.mpr c18
              have c18b1 : (a0 != 1) = false := bne_eq_false_iff_eq.mpr c18
              clear c18
              have H' := Aside0.mk H
              clear H
              go_wp2
              repeat (go_quiet (fail); try go_wp2)
              go_meet
              case rel => exact ⟨_, (x6_1), (by first | rfl | (simp; done) | (simp [*]; done)), H', ⟨by have := HK1.out; first | omega | exact Nat.le_refl _⟩, ⟨by (with_reducible repeat (first | apply Kd.R_alloc | apply Kd.R_drewN | apply Kd.R_drew)); exact HO_5.out⟩, ⟨by repeat (first | (with_reducible first | exact HB.out | apply below_alloc | apply pw_below_drewN | apply below_drew1) | exact HB.out)⟩⟩
            · rw [if_neg c18] at H
              have c18b0 : (a0 == 1) = false := beq_eq_false_iff_ne.mpr c18
              have c18b1 : (a0 != 1) = true := bne_iff_ne.mpr c18
              by_cases c19 : a0 = 3
              · rw [if_pos c19] at H
                have c19b0 : (a0 == 3) = true := beq_iff_eq.mpr c19
                have c19b1 : (a0 != 3) = false := bne_eq_false_iff_eq.mpr c19
                clear c19
                have H' := Aside0.mk H
                clear H
                go_wp2
                repeat (go_quiet (fail); try go_wp2)
                go_meet
                case rel => exact ⟨_, (x6_1), (by first | rfl | (simp; done) | (simp [*]; done)), H', ⟨by have := HK1.out; first | omega | exact Nat.le_refl _⟩, ⟨by (with_reducible repeat (first | apply Kd.R_alloc | apply Kd.R_drewN | apply Kd.R_drew)); exact HO_5.out⟩, ⟨by repeat (first | (with_reducible first | exact HB.out | apply below_alloc | apply pw_below_drewN | apply below_drew1) | exact HB.out)⟩⟩
              · rw [if_neg c19] at H
                have c19b0 : (a0 == 3) = false := beq_eq_false_iff_ne.mpr c19
                have c19b1 : (a0 != 3) = true := bne_iff_ne.mpr c19
                have H' := Aside0.mk H
                clear H
                go_wp2
                repeat (go_quiet (fail); try go_wp2)
                go_meet
                case rel => exact ⟨_, (false), (by first | rfl | (simp; done) | (simp [*]; done)), H', ⟨by have := HK1.out; first | omega | exact Nat.le_refl _⟩, ⟨by (with_reducible repeat (first | apply Kd.R_alloc | apply Kd.R_drewN | apply Kd.R_drew)); exact HO_5.out⟩, ⟨by repeat (first | (with_reducible first | exact HB.out | apply below_alloc | apply pw_below_drewN | apply below_drew1) | exact HB.out)⟩⟩
        case rest =>
          clear HC15
          try clear c1
          try clear p1
          try clear q1
          try clear hx1
          try clear p2
          try clear c5
          try clear c5b0
          try clear c6
          try clear p6
          try clear c7
          try clear c7b0
          try clear c8
          try clear c10
          try clear c11
          try clear c13
          try clear c13b0
          try clear p15
          try clear q15
          try clear hx15
          try clear c17
          try clear c17b0
          try clear c17b1
          try clear c18
          try clear c18b0
          try clear c18b1
          try clear c19
          try clear c19b0
          try clear c19b1
          try clear hx150_0
          try clear hx151_0
          try clear hx152_0
          try clear p150
          try clear p151
          try clear p152
          try clear p2
          try clear q150
          try clear q151
          try clear q152
          obtain ⟨kq, x53_14, rfl, HA, HJ14, HO_5, HB⟩ := hcut
          cases kq with
          | zero => exact absurd HA.out (by simp [domesdayref03_Quote.j1])
          | succ kj14 =>
            have H := HA.out
            clear HA
            simp only [domesdayref03_Quote.j1] at H
            by_cases c20 : x53_14 = true
            · subst c20
              have H1 : (some a1) = some r := by rw [if_pos rfl] at H; exact H
              clear H
              have H := H1
              clear H1
              obtain rfl := Option.some.inj H
              go_wp2
              repeat (go_quiet (fail); try go_wp2)
              go_ret
              exact ⟨by first | rfl | (simp [errW_none, errW_some] <;> rfl) | (simp [*, errW_none, errW_some] <;> rfl), by repeat (first | (with_reducible first | exact HB.out | apply below_alloc | apply pw_below_drewN | apply below_drew1) | exact HB.out)⟩
            · replace c20 := Bool.eq_false_iff.mpr c20
              subst c20
              have H1 : (if a0 = 1 then (domesdayref03_Quote.j2 kj14 a0 a1 t147 true) else (if a0 = 2 then (domesdayref03_Quote.j2 kj14 a0 a1 t147 true) else (if a0 = 3 then (domesdayref03_Quote.j2 kj14 a0 a1 t147 (!x7_1)) else (domesdayref03_Quote.j2 kj14 a0 a1 t147 false)))) = some r := by rw [if_neg (show ¬ (false = true) by decide)] at H; exact H
              clear H
              have H := H1
              clear H1
              have HC21 := Aside0.mk H
              clear H
              go_upto_region 10 with (fail)
              repeat (go_quiet (fail); go_upto_region 10 with (fail))
              go_cut [68] (fun v68 wc => ∃ (kq : Nat) (x68_20 : Bool), v68 = .bool x68_20 ∧ Aside0 (domesdayref03_Quote.j2 kq a0 a1 t147 x68_20 = some r) ∧ Aside0 (kq ≤ kj14) ∧ Aside0 (Kd.R (Kd.int .i64) 3 wc w.heap.size (fun _ => True) (.slice Ao16 t147.length co16) t147) ∧ Aside0 (Below w.heap.size w wc))
              case first =>
                have H := HC21.out
                clear HC21
                by_cases c22 : a0 = 1
                · rw [if_pos c22] at H
                  have c22b0 : (a0 == 1) = true := beq_iff_eq.mpr c22
                  have c22b1 : (a0 != 1) = false := bne_eq_false_iff_eq.mpr c22
                  clear c22
                  (first | rw [c22b0] | (simp only [i64_w, i32_w]; rw [c22b0]) | skip)
                  have H' := Aside0.mk H
                  clear H
                  go_wp2
                  repeat (go_quiet (fail); try go_wp2)
                  go_meet
                  case rel => exact ⟨_, (true), (by first | rfl | (simp; done) | (simp [*]; done)), H', ⟨by have := HK1.out; have := HJ14.out; first | omega | exact Nat.le_refl _⟩, ⟨by (with_reducible repeat (first | apply Kd.R_alloc | apply Kd.R_drewN | apply Kd.R_drew)); exact HO_5.out⟩, ⟨by repeat (first | (with_reducible first | exact HB.out | apply below_alloc | apply pw_below_drewN | apply below_drew1) | exact HB.out)⟩⟩
                · rw [if_neg c22] at H
                  have c22b0 : (a0 == 1) = false := beq_eq_false_iff_ne.mpr c22
                  have c22b1 : (a0 != 1) = true := bne_iff_ne.mpr c22
                  (first | rw [c22b0] | (simp only [i64_w, i32_w]; rw [c22b0]) | skip)
                  by_cases c23 : a0 = 2
                  · rw [if_pos c23] at H
                    have c23b0 : (a0 == 2) = true := beq_iff_eq.mpr c23
                    have c23b1 : (a0 != 2) = false := bne_eq_false_iff_eq.mpr c23
                    clear c23
                    have H' := Aside0.mk H
                    clear H
                    go_wp2
                    repeat (go_quiet (fail); try go_wp2)
                    go_meet
                    case rel => exact ⟨_, (true), (by first | rfl | (simp; done) | (simp [*]; done)), H', ⟨by have := HK1.out; have := HJ14.out; first | omega | exact Nat.le_refl _⟩, ⟨by (with_reducible repeat (first | apply Kd.R_alloc | apply Kd.R_drewN | apply Kd.R_drew)); exact HO_5.out⟩, ⟨by repeat (first | (with_reducible first | exact HB.out | apply below_alloc | apply pw_below_drewN | apply below_drew1) | exact HB.out)⟩⟩
                  · rw [if_neg c23] at H
                    have c23b0 : (a0 == 2) = false := beq_eq_false_iff_ne.mpr c23
                    have c23b1 : (a0 != 2) = true := bne_iff_ne.mpr c23
                    by_cases c24 : a0 = 3
                    · rw [if_pos c24] at H
                      have c24b0 : (a0 == 3) = true := beq_iff_eq.mpr c24
                      have c24b1 : (a0 != 3) = false := bne_eq_false_iff_eq.mpr c24
                      clear c24
                      have H' := Aside0.mk H
                      clear H
                      go_wp2
                      repeat (go_quiet (fail); try go_wp2)
                      go_meet
                      case rel => exact ⟨_, (!x7_1), (by first | rfl | (simp; done) | (simp [*]; done)), H', ⟨by have := HK1.out; have := HJ14.out; first | omega | exact Nat.le_refl _⟩, ⟨by (with_reducible repeat (first | apply Kd.R_alloc | apply Kd.R_drewN | apply Kd.R_drew)); exact HO_5.out⟩, ⟨by repeat (first | (with_reducible first | exact HB.out | apply below_alloc | apply pw_below_drewN | apply below_drew1) | exact HB.out)⟩⟩
                    · rw [if_neg c24] at H
                      have c24b0 : (a0 == 3) = false := beq_eq_false_iff_ne.mpr c24
                      have c24b1 : (a0 != 3) = true := bne_iff_ne.mpr c24
                      have H' := Aside0.mk H
                      clear H
                      go_wp2
                      repeat (go_quiet (fail); try go_wp2)
                      go_meet
                      case rel => exact ⟨_, (false), (by first | rfl | (simp; done) | (simp [*]; done)), H', ⟨by have := HK1.out; have := HJ14.out; first | omega | exact Nat.le_refl _⟩, ⟨by (with_reducible repeat (first | apply Kd.R_alloc | apply Kd.R_drewN | apply Kd.R_drew)); exact HO_5.out⟩, ⟨by repeat (first | (with_reducible first | exact HB.out | apply below_alloc | apply pw_below_drewN | apply below_drew1) | exact HB.out)⟩⟩
              case rest =>
                as_aux_lemma =>
                 clear HC21
                 try clear c1
                 try clear p1
                 try clear q1
                 try clear hx1
                 try clear c2
                 try clear p2
                 try clear c5
                 try clear c5b0
                 try clear c6
                 try clear p6
                 try clear c7
                 try clear c7b0
                 try clear c8
                 try clear c10
                 try clear c11
                 try clear c13
                 try clear c13b0
                 try clear p15
                 try clear q15
                 try clear hx15
                 try clear c17
                 try clear c17b0
                 try clear c17b1
                 try clear c18
                 try clear c18b0
                 try clear c18b1
                 try clear c19
                 try clear c19b0
                 try clear c19b1
                 try clear c20
                 try clear c22
                 try clear c22b0
                 try clear c22b1
                 try clear c23
                 try clear c23b0
                 try clear c23b1
                 try clear c24
                 try clear c24b0
                 try clear c24b1
                 try clear hx150_0
                 try clear hx151_0
                 try clear hx152_0
                 try clear p1
                 try clear p15
                 try clear p150
                 try clear p151
                 try clear p152
                 try clear p2
                 try clear p6
                 try clear q1
                 try clear q15
                 try clear q150
                 try clear q151
                 try clear q152
                 obtain ⟨kq, x68_20, rfl, HA, HJ20, HO_5, HB⟩ := hcut
                 cases kq with
                 | zero => exact absurd HA.out (by simp [domesdayref03_Quote.j2])
                 | succ kj20 =>
                   have H := HA.out
                   clear HA
                   simp only [domesdayref03_Quote.j2] at H
                   by_cases c25 : x68_20 = true
                   · subst c25
                     have H1 : ((domesdayref03_Always.f kj20 a1).bind fun t153 => (some t153)) = some r := by rw [if_pos rfl] at H; exact H
                     clear H
                     have H := H1
                     clear H1
                     replace H := Option.bind_eq_some_iff.mp H
                     obtain ⟨t153, A260, H⟩ := H
                     replace H : (some t153) = some r := H
                     have A26 := Aside0.mk A260
                     clear A260
                     obtain rfl := Option.some.inj H
                     go_wp2_with (first | (go_at_call 22; (with_reducible refine (domesdayref03_Always.calls kj20 a1 t153 _ A26.out).mono ?_); rintro e w' ⟨rfl, ⟨nd, rfl⟩⟩; (try first | exact ⟨rfl, _, World.drewN_drewN _ _ _⟩ | exact ⟨rfl, _, Eq.trans (World.drewN_drewN _ _ _) (congrArg (World.drewN _) (Nat.add_assoc _ _ _))⟩)))
                     repeat (go_quiet (first | (go_at_call 22; (with_reducible refine (domesdayref03_Always.calls kj20 a1 t153 _ A26.out).mono ?_); rintro e w' ⟨rfl, ⟨nd, rfl⟩⟩; (try first | exact ⟨rfl, _, World.drewN_drewN _ _ _⟩ | exact ⟨rfl, _, Eq.trans (World.drewN_drewN _ _ _) (congrArg (World.drewN _) (Nat.add_assoc _ _ _))⟩))); try go_wp2_with (first | (go_at_call 22; (with_reducible refine (domesdayref03_Always.calls kj20 a1 t153 _ A26.out).mono ?_); rintro e w' ⟨rfl, ⟨nd, rfl⟩⟩; (try first | exact ⟨rfl, _, World.drewN_drewN _ _ _⟩ | exact ⟨rfl, _, Eq.trans (World.drewN_drewN _ _ _) (congrArg (World.drewN _) (Nat.add_assoc _ _ _))⟩))))
                     go_ret
                     exact ⟨by first | rfl | (simp [errW_none, errW_some] <;> rfl) | (simp [*, errW_none, errW_some] <;> rfl), by repeat (first | (with_reducible first | exact HB.out | apply below_alloc | apply pw_below_drewN | apply below_drew1) | exact HB.out)⟩
                   · replace c25 := Bool.eq_false_iff.mpr c25
                     subst c25
                     have H1 : (if a0 = 3 then (domesdayref03_Quote.l1 kj20 a1 t147 (⟨#[]⟩ : ByteArray) (⟨#[]⟩ : ByteArray) 0) else (if a0 = 4 then (domesdayref03_Quote.j6 kj20 a0 a1 t147 (⟨#[]⟩ : ByteArray) false) else (domesdayref03_Quote.j6 kj20 a0 a1 t147 (⟨#[]⟩ : ByteArray) (a0 != 5)))) = some r := by rw [if_neg (show ¬ (false = true) by decide)] at H; exact H
                     clear H
                     have H := H1
                     clear H1
                     by_cases c27 : a0 = 3
                     · rw [if_pos c27] at H
                       have c27b0 : (a0 == 3) = true := beq_iff_eq.mpr c27
                       have c27b1 : (a0 != 3) = false := bne_eq_false_iff_eq.mpr c27
                       clear c27
                       have H' := Aside0.mk H
                       clear H
                       go_wp2
                       repeat (go_quiet (fail); try go_wp2)
                       go_loopg [9, 10, 11] kj20 (fun kq v9 v10 v11 w' => ∃ (x9_4 : ByteArray) (x10_4 : ByteArray) (x11_4 : Int), v9 = .string x9_4 ∧ v10 = .string x10_4 ∧ v11 = .int .i64 x11_4 ∧ Aside0 (domesdayref03_Quote.l1 kq a1 t147 x9_4 x10_4 x11_4 = some r) ∧ Aside0 (kq ≤ kj20) ∧ Aside0 (Kd.R (Kd.int .i64) 3 w' w.heap.size (fun _ => True) (.slice Ao16 t147.length co16) t147) ∧ Aside0 (Below w.heap.size w w'))
                       case atStart => exact ⟨((⟨#[]⟩ : ByteArray)), ((⟨#[]⟩ : ByteArray)), (0), (by first | rfl | (simp; done) | (simp [*]; done)), (by first | rfl | (simp; done) | (simp [*]; done)), (by first | rfl | (simp; done) | (simp [*]; done)), H', ⟨Nat.le_refl _⟩, ⟨by (with_reducible repeat (first | apply Kd.R_alloc | apply Kd.R_drewN | apply Kd.R_drew)); exact HO_5.out⟩, ⟨by repeat (first | (with_reducible first | exact HB.out | apply below_alloc | apply pw_below_drewN | apply below_drew1) | exact HB.out)⟩⟩
                       case round =>
                         clear H'
                         try clear c1
                         try clear p1
                         try clear q1
                         try clear hx1
                         try clear c2
                         try clear p2
                         try clear c5
                         try clear c5b0
                         try clear c6
                         try clear p6
                         try clear c7
                         try clear c7b0
                         try clear c8
                         try clear c10
                         try clear c11
                         try clear c13
                         try clear c13b0
                         try clear p15
                         try clear q15
                         try clear hx15
                         try clear c17
                         try clear c17b0
                         try clear c17b1
                         try clear c18
                         try clear c18b0
                         try clear c18b1
                         try clear c19
                         try clear c19b0
                         try clear c19b1
                         try clear c20
                         try clear c22
                         try clear c22b0
                         try clear c22b1
                         try clear c23
                         try clear c23b0
                         try clear c23b1
                         try clear c24
                         try clear c24b0
                         try clear c24b1
                         try clear c25
                         try clear c27
                         try clear c27b0
                         try clear c27b1
                         try clear hx150_0
                         try clear hx151_0
                         try clear hx152_0
                         try clear p1
                         try clear p15
                         try clear p150
                         try clear p151
                         try clear p152
                         try clear p2
                         try clear p6
                         try clear q1
                         try clear q15
                         try clear q150
                         try clear q151
                         try clear q152
                         obtain ⟨x9_4, x10_4, x11_4, rfl, rfl, rfl, HA, HK4, HO_5, HB⟩ := hrel
                         cases gk with
                         | zero => exact absurd HA.out (by simp [domesdayref03_Quote.l1])
                         | succ k4 =>
                           have H := HA.out
                           clear HA
                           simp only [domesdayref03_Quote.l1] at H
                           by_cases c28 : x11_4 < (a1.size : Int)
                           · rw [if_pos c28] at H
                             have c28b0 : decide (x11_4 < (a1.size : Int)) = true := decide_eq_true c28
                             clear c28
                             by_cases c29 : 0 ≤ x11_4
                             · rw [if_pos c29] at H
                               have c29b0 : decide (0 ≤ x11_4) = true := decide_eq_true c29
                               clear c29
                               by_cases c30 : x11_4 < (t147.length : Int)
                               · rw [if_pos c30] at H
                                 have c30b0 : decide (x11_4 < (t147.length : Int)) = true := decide_eq_true c30
                                 clear c30
                                 have HC31 := Aside0.mk H
                                 clear H
                                 have p154 : 0 ≤ (x11_4 : Int) := of_decide_eq_true (by first | (with_reducible assumption) | assumption)
                                 have q154 : x11_4 < (t147.length : Int) := of_decide_eq_true (by first | (with_reducible assumption) | assumption)
                                 obtain ⟨ad154, e154, hx154_0⟩ := Kd.at_int (Kd.R_reads' HO_5.out).2.2 x11_4 p154 q154
                                 cases e154
                                 replace p154 := eq_true p154
                                 replace q154 := eq_true q154
                                 go_upto_if 83 with (fail)
                                 repeat (go_quiet (fail); go_upto_if 83 with (fail))
                                 go_cut [10] (fun v10 wc => ∃ (kq : Nat) (x10_30 : ByteArray), v10 = .string x10_30 ∧ Aside0 (domesdayref03_Quote.j4 kq a1 t147 x9_4 x10_30 x11_4 = some r) ∧ Aside0 (kq ≤ k4) ∧ Aside0 (Kd.R (Kd.int .i64) 3 wc w.heap.size (fun _ => True) (.slice (some ad154) t147.length co16) t147) ∧ Aside0 (Below w.heap.size w wc))
                                 case first =>
                                   have H := HC31.out
                                   clear HC31
                                   by_cases c32 : (rd t147 x11_4) = 2
                                   · rw [if_pos c32] at H
                                     have c32b0 : ((rd t147 x11_4) == 2) = true := beq_iff_eq.mpr c32
                                     have c32b1 : ((rd t147 x11_4) != 2) = false := bne_eq_false_iff_eq.mpr c32
                                     clear c32
                                     (first | rw [c32b0] | (simp only [i64_w, i32_w]; rw [c32b0]) | skip)
                                     replace H := Option.bind_eq_some_iff.mp H
                                     obtain ⟨t155, A340, H⟩ := H
                                     replace H : (if x10_4.size + t155.size ≤ 9223372036854775807 then (domesdayref03_Quote.j4 k4 a1 t147 x9_4 (x10_4 ++ t155) x11_4) else (none)) = some r := H
                                     have A34 := Aside0.mk A340
                                     clear A340
                                     by_cases c35 : x10_4.size + t155.size ≤ 9223372036854775807
                                     · rw [if_pos c35] at H
                                       have c35b0 := eq_true c35
                                       have c35b1 : decide (x10_4.size + t155.size ≤ 9223372036854775807) = true := decide_eq_true c35
                                       try have c35b2 : (9223372036854775807 < x10_4.size + t155.size) = False := eq_false (Nat.not_lt.2 c35)
                                       have H' := Aside0.mk H
                                       clear H
                                       have p33 : 0 ≤ (x11_4 : Int) := of_decide_eq_true (by first | (with_reducible assumption) | assumption)
                                       have q33 : x11_4 < (a1.size : Int) := of_decide_eq_true (by first | (with_reducible assumption) | assumption)
                                       have hx33 := bt_at a1 x11_4
                                       replace p33 := eq_true p33
                                       replace q33 := eq_true q33
                                       go_wp2_with (first | (go_at_call 23; (with_reducible refine (domesdayref03_Escape.calls (bt a1 x11_4) t155 _ A34.out).mono ?_); rintro e w36 ⟨rfl, hb⟩; have n0_ := Aside0.mk (Kd.R_below (by (with_reducible repeat (first | apply Kd.R_alloc | apply Kd.R_drewN | apply Kd.R_drew)); exact HO_5.out) hb); have n1_ := Aside0.mk (below_step (by repeat (first | (with_reducible first | exact HB.out | apply below_alloc | apply pw_below_drewN | apply below_drew1) | exact HB.out)) hb); clear HO_5; clear HB; have HO_5 := n0_; have HB := n1_; clear n0_ n1_; (try clear hb); (try clear hb2); (try clear hk); (try clear hi)))
                                       repeat (go_quiet (first | (go_at_call 23; (with_reducible refine (domesdayref03_Escape.calls (bt a1 x11_4) t155 _ A34.out).mono ?_); rintro e w36 ⟨rfl, hb⟩; have n0_ := Aside0.mk (Kd.R_below (by (with_reducible repeat (first | apply Kd.R_alloc | apply Kd.R_drewN | apply Kd.R_drew)); exact HO_5.out) hb); have n1_ := Aside0.mk (below_step (by repeat (first | (with_reducible first | exact HB.out | apply below_alloc | apply pw_below_drewN | apply below_drew1) | exact HB.out)) hb); clear HO_5; clear HB; have HO_5 := n0_; have HB := n1_; clear n0_ n1_; (try clear hb); (try clear hb2); (try clear hk); (try clear hi))); try go_wp2_with (first | (go_at_call 23; (with_reducible refine (domesdayref03_Escape.calls (bt a1 x11_4) t155 _ A34.out).mono ?_); rintro e w36 ⟨rfl, hb⟩; have n0_ := Aside0.mk (Kd.R_below (by (with_reducible repeat (first | apply Kd.R_alloc | apply Kd.R_drewN | apply Kd.R_drew)); exact HO_5.out) hb); have n1_ := Aside0.mk (below_step (by repeat (first | (with_reducible first | exact HB.out | apply below_alloc | apply pw_below_drewN | apply below_drew1) | exact HB.out)) hb); clear HO_5; clear HB; have HO_5 := n0_; have HB := n1_; clear n0_ n1_; (try clear hb); (try clear hb2); (try clear hk); (try clear hi))))
                                       go_meet
                                       case rel => exact ⟨_, (x10_4 ++ t155), (by first | rfl | (simp; done) | (simp [*]; done)), H', ⟨by have := HK1.out; have := HJ14.out; have := HJ20.out; have := HK4.out; first | omega | exact Nat.le_refl _⟩, ⟨by (with_reducible repeat (first | apply Kd.R_alloc | apply Kd.R_drewN | apply Kd.R_drew)); exact HO_5.out⟩, ⟨by repeat (first | (with_reducible first | exact HB.out | apply below_alloc | apply pw_below_drewN | apply below_drew1) | exact HB.out)⟩⟩
                                     · rw [if_neg c35] at H
                                       exact absurd H (by simp)
                                   · rw [if_neg c32] at H
                                     have c32b0 : ((rd t147 x11_4) == 2) = false := beq_eq_false_iff_ne.mpr c32
                                     have c32b1 : ((rd t147 x11_4) != 2) = true := bne_iff_ne.mpr c32
                                     (first | rw [c32b0] | (simp only [i64_w, i32_w]; rw [c32b0]) | skip)
                                     have c37b0 := eq_true (of_decide_eq_true (by first | (with_reducible assumption) | assumption) : 0 ≤ x11_4)
                                     by_cases c38 : x11_4 ≤ (wrap64 (x11_4 + 1))
                                     · rw [if_pos c38] at H
                                       have c38b0 := eq_true c38
                                       have c38b1 : decide (x11_4 ≤ (wrap64 (x11_4 + 1))) = true := decide_eq_true c38
                                       by_cases c39 : (wrap64 (x11_4 + 1)) ≤ (a1.size : Int)
                                       · rw [if_pos c39] at H
                                         have c39b0 := eq_true c39
                                         have c39b1 : decide ((wrap64 (x11_4 + 1)) ≤ (a1.size : Int)) = true := decide_eq_true c39
                                         by_cases c40 : x10_4.size + (a1.extract (x11_4 : Int).toNat ((wrap64 (x11_4 + 1)) : Int).toNat).size ≤ 9223372036854775807
                                         · rw [if_pos c40] at H
                                           have c40b0 := eq_true c40
                                           have c40b1 : decide (x10_4.size + (a1.extract (x11_4 : Int).toNat ((wrap64 (x11_4 + 1)) : Int).toNat).size ≤ 9223372036854775807) = true := decide_eq_true c40
                                           try have c40b2 : (9223372036854775807 < x10_4.size + (a1.extract (x11_4 : Int).toNat ((wrap64 (x11_4 + 1)) : Int).toNat).size) = False := eq_false (Nat.not_lt.2 c40)
                                           (try (have c40b3 := c40; clear c40 c40b0 c40b1 c40b2; simp [go_sem, *] at c40b3; have c40b4 := eq_false (Nat.not_lt.2 c40b3)))
                                           have H' := Aside0.mk H
                                           clear H
                                           go_wp2
                                           repeat (go_quiet (fail); try go_wp2)
                                           go_meet
                                           case rel => exact ⟨_, (x10_4 ++ (a1.extract (x11_4 : Int).toNat ((wrap64 (x11_4 + 1)) : Int).toNat)), (by first | rfl | (simp; done) | (simp [*]; done)), H', ⟨by have := HK1.out; have := HJ14.out; have := HJ20.out; have := HK4.out; first | omega | exact Nat.le_refl _⟩, ⟨by (with_reducible repeat (first | apply Kd.R_alloc | apply Kd.R_drewN | apply Kd.R_drew)); exact HO_5.out⟩, ⟨by repeat (first | (with_reducible first | exact HB.out | apply below_alloc | apply pw_below_drewN | apply below_drew1) | exact HB.out)⟩⟩
                                         · rw [if_neg c40] at H
                                           exact absurd H (by simp)
                                       · rw [if_neg c39] at H
                                         exact absurd H (by simp)
                                     · rw [if_neg c38] at H
                                       exact absurd H (by simp)
                                 case rest =>
                                   as_aux_lemma =>
                                    clear HC31
                                    try clear c1
                                    try clear p1
                                    try clear q1
                                    try clear hx1
                                    try clear c2
                                    try clear p2
                                    try clear c3
                                    try clear p3
                                    try clear q3
                                    try clear hx3
                                    try clear c4
                                    try clear c5
                                    try clear c5b0
                                    try clear c6
                                    try clear p6
                                    try clear c7
                                    try clear c7b0
                                    try clear c8
                                    try clear c10
                                    try clear c11
                                    try clear c13
                                    try clear c13b0
                                    try clear p15
                                    try clear q15
                                    try clear hx15
                                    try clear c17
                                    try clear c17b0
                                    try clear c17b1
                                    try clear c18
                                    try clear c18b0
                                    try clear c18b1
                                    try clear c19
                                    try clear c19b0
                                    try clear c19b1
                                    try clear c20
                                    try clear c22
                                    try clear c22b0
                                    try clear c22b1
                                    try clear c23
                                    try clear c23b0
                                    try clear c23b1
                                    try clear c24
                                    try clear c24b0
                                    try clear c24b1
                                    try clear c25
                                    try clear c27
                                    try clear c27b0
                                    try clear c27b1
                                    try clear c28
                                    try clear c28b0
                                    try clear c29
                                    try clear c29b0
                                    try clear c30
                                    try clear c30b0
                                    try clear c32
                                    try clear c32b0
                                    try clear c32b1
                                    try clear p33
                                    try clear q33
                                    try clear hx33
                                    try clear c35
                                    try clear c35b0
                                    try clear c35b1
                                    try clear c35b2
                                    try clear c37
                                    try clear c37b0
                                    try clear c38
                                    try clear c38b0
                                    try clear c38b1
                                    try clear c39
                                    try clear c39b0
                                    try clear c39b1
                                    try clear c40
                                    try clear c40b0
                                    try clear c40b1
                                    try clear c40b2
                                    try clear hx150_0
                                    try clear hx151_0
                                    try clear hx152_0
                                    try clear hx154_0
                                    try clear p1
                                    try clear p15
                                    try clear p150
                                    try clear p151
                                    try clear p152
                                    try clear p154
                                    try clear p2
                                    try clear p33
                                    try clear p6
                                    try clear q1
                                    try clear q15
                                    try clear q150
                                    try clear q151
                                    try clear q152
                                    try clear q154
                                    try clear q33
                                    obtain ⟨kq, x10_30, rfl, HA, HJ30, HO_5, HB⟩ := hcut
                                    cases kq with
                                    | zero => exact absurd HA.out (by simp [domesdayref03_Quote.j4])
                                    | succ kj30 =>
                                      have H := HA.out
                                      clear HA
                                      simp only [domesdayref03_Quote.j4] at H
                                      have HC41 := Aside0.mk H
                                      clear H
                                      go_upto_region 20 with (fail)
                                      repeat (go_quiet (fail); go_upto_region 20 with (fail))
                                      go_cut [115] (fun v115 wc => ∃ (kq : Nat) (x115_40 : Bool), v115 = .bool x115_40 ∧ Aside0 (domesdayref03_Quote.j5 kq a1 t147 x9_4 x10_30 x11_4 x115_40 = some r) ∧ Aside0 (kq ≤ kj30) ∧ Aside0 (Kd.R (Kd.int .i64) 3 wc w.heap.size (fun _ => True) (.slice (some ad154) t147.length co16) t147) ∧ Aside0 (Below w.heap.size w wc))
                                      case first =>
                                        have H := HC41.out
                                        clear HC41
                                        by_cases c42 : (wrap64 (x11_4 + 1)) = (a1.size : Int)
                                        · rw [if_pos c42] at H
                                          have c42b0 : ((wrap64 (x11_4 + 1)) == (a1.size : Int)) = true := beq_iff_eq.mpr c42
                                          have c42b1 : ((wrap64 (x11_4 + 1)) != (a1.size : Int)) = false := bne_eq_false_iff_eq.mpr c42
                                          clear c42
                                          (first | rw [c42b0] | (simp only [i64_w, i32_w]; rw [c42b0]) | skip)
                                          have H' := Aside0.mk H
                                          clear H
                                          go_wp2
                                          repeat (go_quiet (fail); try go_wp2)
                                          go_meet
                                          case rel => exact ⟨_, (true), (by first | rfl | (simp; done) | (simp [*]; done)), H', ⟨by have := HK1.out; have := HJ14.out; have := HJ20.out; have := HK4.out; have := HJ30.out; first | omega | exact Nat.le_refl _⟩, ⟨by (with_reducible repeat (first | apply Kd.R_alloc | apply Kd.R_drewN | apply Kd.R_drew)); exact HO_5.out⟩, ⟨by repeat (first | (with_reducible first | exact HB.out | apply below_alloc | apply pw_below_drewN | apply below_drew1) | exact HB.out)⟩⟩
                                        · rw [if_neg c42] at H
                                          have c42b0 : ((wrap64 (x11_4 + 1)) == (a1.size : Int)) = false := beq_eq_false_iff_ne.mpr c42
                                          have c42b1 : ((wrap64 (x11_4 + 1)) != (a1.size : Int)) = true := bne_iff_ne.mpr c42
                                          (first | rw [c42b0] | (simp only [i64_w, i32_w]; rw [c42b0]) | skip)
                                          obtain ⟨ji43, hji43⟩ : ∃ j_ : Int, (wrap64 (x11_4 + 1)) = j_ := ⟨_, rfl⟩
                                          replace H : (if 0 ≤ (ji43) then (if (ji43) < (t147.length : Int) then (if 0 ≤ x11_4 then (if x11_4 < (t147.length : Int) then (domesdayref03_Quote.j5 kj30 a1 t147 x9_4 x10_30 x11_4 (((rd t147 (ji43)) == 2) != ((rd t147 x11_4) == 2))) else (none)) else (none)) else (none)) else (none)) = some r := by first | (rw [hji43] at H; exact H) | (simp only [hji43] at H ⊢; exact H)
                                          (try rw [hji43] at c42b0)
                                          (try rw [hji43] at c42b1)
                                          have hji43w : (IntKind.i64.wrap (x11_4 + 1)) = ji43 := (i64_w _).trans hji43
                                          by_cases c44 : 0 ≤ (ji43)
                                          · rw [if_pos c44] at H
                                            have c44b0 : decide (0 ≤ (ji43)) = true := decide_eq_true c44
                                            clear c44
                                            by_cases c45 : (ji43) < (t147.length : Int)
                                            · rw [if_pos c45] at H
                                              have c45b0 : decide ((ji43) < (t147.length : Int)) = true := decide_eq_true c45
                                              clear c45
                                              by_cases c46 : 0 ≤ x11_4
                                              · rw [if_pos c46] at H
                                                have c46b0 : decide (0 ≤ x11_4) = true := decide_eq_true c46
                                                clear c46
                                                by_cases c47 : x11_4 < (t147.length : Int)
                                                · rw [if_pos c47] at H
                                                  have c47b0 : decide (x11_4 < (t147.length : Int)) = true := decide_eq_true c47
                                                  clear c47
                                                  have H' := Aside0.mk H
                                                  clear H
                                                  have p156 : 0 ≤ ((ji43) : Int) := of_decide_eq_true (by first | (with_reducible assumption) | assumption)
                                                  have q156 : (ji43) < (t147.length : Int) := of_decide_eq_true (by first | (with_reducible assumption) | assumption)
                                                  obtain ⟨ad156, e156, hx156_0⟩ := Kd.at_int (Kd.R_reads' HO_5.out).2.2 (ji43) p156 q156
                                                  obtain rfl : ad154 = ad156 := (by injection e156)
                                                  replace p156 := eq_true p156
                                                  replace q156 := eq_true q156
                                                  have p157 : 0 ≤ (x11_4 : Int) := of_decide_eq_true (by first | (with_reducible assumption) | assumption)
                                                  have q157 : x11_4 < (t147.length : Int) := of_decide_eq_true (by first | (with_reducible assumption) | assumption)
                                                  obtain ⟨ad157, e157, hx157_0⟩ := Kd.at_int (Kd.R_reads' HO_5.out).2.2 x11_4 p157 q157
                                                  obtain rfl : ad154 = ad157 := (by injection e157)
                                                  replace p157 := eq_true p157
                                                  replace q157 := eq_true q157
                                                  go_wp2
                                                  repeat (go_quiet (fail); try go_wp2)
                                                  go_meet
                                                  case rel => exact ⟨_, ((((rd t147 (ji43)) == 2) != ((rd t147 x11_4) == 2))), (by first | rfl | (simp; done) | (simp only [← hji43] <;> (first | rfl | simp)) | (simp [*]; done)), H', ⟨by have := HK1.out; have := HJ14.out; have := HJ20.out; have := HK4.out; have := HJ30.out; first | omega | exact Nat.le_refl _⟩, ⟨by (with_reducible repeat (first | apply Kd.R_alloc | apply Kd.R_drewN | apply Kd.R_drew)); exact HO_5.out⟩, ⟨by repeat (first | (with_reducible first | exact HB.out | apply below_alloc | apply pw_below_drewN | apply below_drew1) | exact HB.out)⟩⟩
                                                · rw [if_neg c47] at H
                                                  exact absurd H (by simp)
                                              · rw [if_neg c46] at H
                                                exact absurd H (by simp)
                                            · rw [if_neg c45] at H
                                              exact absurd H (by simp)
                                          · rw [if_neg c44] at H
                                            exact absurd H (by simp)
                                      case rest =>
                                        as_aux_lemma =>
                                         clear HC41
                                         try clear c1
                                         try clear p1
                                         try clear q1
                                         try clear hx1
                                         try clear c2
                                         try clear p2
                                         try clear c3
                                         try clear p3
                                         try clear q3
                                         try clear hx3
                                         try clear c4
                                         try clear c5
                                         try clear c5b0
                                         try clear c6
                                         try clear p6
                                         try clear c7
                                         try clear c7b0
                                         try clear c8
                                         try clear c10
                                         try clear c11
                                         try clear c13
                                         try clear c13b0
                                         try clear p15
                                         try clear q15
                                         try clear hx15
                                         try clear c17
                                         try clear c17b0
                                         try clear c17b1
                                         try clear c18
                                         try clear c18b0
                                         try clear c18b1
                                         try clear c19
                                         try clear c19b0
                                         try clear c19b1
                                         try clear c20
                                         try clear c22
                                         try clear c22b0
                                         try clear c22b1
                                         try clear c23
                                         try clear c23b0
                                         try clear c23b1
                                         try clear c24
                                         try clear c24b0
                                         try clear c24b1
                                         try clear c25
                                         try clear c27
                                         try clear c27b0
                                         try clear c27b1
                                         try clear c28
                                         try clear c28b0
                                         try clear c29
                                         try clear c29b0
                                         try clear c30
                                         try clear c30b0
                                         try clear c32
                                         try clear c32b0
                                         try clear c32b1
                                         try clear p33
                                         try clear q33
                                         try clear hx33
                                         try clear c35
                                         try clear c35b0
                                         try clear c35b1
                                         try clear c35b2
                                         try clear c37
                                         try clear c37b0
                                         try clear c38
                                         try clear c38b0
                                         try clear c38b1
                                         try clear c39
                                         try clear c39b0
                                         try clear c39b1
                                         try clear c40
                                         try clear c40b0
                                         try clear c40b1
                                         try clear c40b2
                                         try clear c42
                                         try clear c42b0
                                         try clear c42b1
                                         try clear c44
                                         try clear c44b0
                                         try clear c45
                                         try clear c45b0
                                         try clear c46
                                         try clear c46b0
                                         try clear c47
                                         try clear c47b0
                                         try clear hx150_0
                                         try clear hx151_0
                                         try clear hx152_0
                                         try clear hx154_0
                                         try clear hx156_0
                                         try clear hx157_0
                                         try clear p1
                                         try clear p15
                                         try clear p150
                                         try clear p151
                                         try clear p152
                                         try clear p154
                                         try clear p156
                                         try clear p157
                                         try clear p2
                                         try clear p3
                                         try clear p33
                                         try clear p6
                                         try clear q1
                                         try clear q15
                                         try clear q150
                                         try clear q151
                                         try clear q152
                                         try clear q154
                                         try clear q156
                                         try clear q157
                                         try clear q3
                                         try clear q33
                                         obtain ⟨kq, x115_40, rfl, HA, HJ40, HO_5, HB⟩ := hcut
                                         cases kq with
                                         | zero => exact absurd HA.out (by simp [domesdayref03_Quote.j5])
                                         | succ kj40 =>
                                           have H := HA.out
                                           clear HA
                                           simp only [domesdayref03_Quote.j5] at H
                                           by_cases c48 : x115_40 = true
                                           · subst c48
                                             have H1 : (if 0 ≤ x11_4 then (if x11_4 < (t147.length : Int) then (if (rd t147 x11_4) = 2 then (if 2 + x10_30.size ≤ 9223372036854775807 then (if 2 + x10_30.size + 1 ≤ 9223372036854775807 then (if x9_4.size + (2 + x10_30.size + 1) ≤ 9223372036854775807 then (domesdayref03_Quote.l1 kj40 a1 t147 (x9_4 ++ (((⟨#[36, 39]⟩ : ByteArray) ++ x10_30) ++ (⟨#[39]⟩ : ByteArray))) (⟨#[]⟩ : ByteArray) (wrap64 (x11_4 + 1))) else (none)) else (none)) else (none)) else ((domesdayref03_Always.f kj40 x10_30).bind fun t159 => (if x9_4.size + t159.size ≤ 9223372036854775807 then (domesdayref03_Quote.l1 kj40 a1 t147 (x9_4 ++ t159) (⟨#[]⟩ : ByteArray) (wrap64 (x11_4 + 1))) else (none)))) else (none)) else (none)) = some r := by rw [if_pos rfl] at H; exact H
                                             clear H
                                             have H := H1
                                             clear H1
                                             by_cases c49 : 0 ≤ x11_4
                                             · rw [if_pos c49] at H
                                               have c49b0 : decide (0 ≤ x11_4) = true := decide_eq_true c49
                                               clear c49
                                               by_cases c50 : x11_4 < (t147.length : Int)
                                               · rw [if_pos c50] at H
                                                 have c50b0 : decide (x11_4 < (t147.length : Int)) = true := decide_eq_true c50
                                                 clear c50
                                                 by_cases c51 : (rd t147 x11_4) = 2
                                                 · rw [if_pos c51] at H
                                                   have c51b0 : ((rd t147 x11_4) == 2) = true := beq_iff_eq.mpr c51
                                                   have c51b1 : ((rd t147 x11_4) != 2) = false := bne_eq_false_iff_eq.mpr c51
                                                   clear c51
                                                   by_cases c52 : 2 + x10_30.size ≤ 9223372036854775807
                                                   · rw [if_pos c52] at H
                                                     have c52b0 := eq_true c52
                                                     have c52b1 : decide (2 + x10_30.size ≤ 9223372036854775807) = true := decide_eq_true c52
                                                     try have c52b2 : (9223372036854775807 < 2 + x10_30.size) = False := eq_false (Nat.not_lt.2 c52)
                                                     by_cases c53 : 2 + x10_30.size + 1 ≤ 9223372036854775807
                                                     · rw [if_pos c53] at H
                                                       have c53b0 := eq_true c53
                                                       have c53b1 : decide (2 + x10_30.size + 1 ≤ 9223372036854775807) = true := decide_eq_true c53
                                                       try have c53b2 : (9223372036854775807 < 2 + x10_30.size + 1) = False := eq_false (Nat.not_lt.2 c53)
                                                       by_cases c54 : x9_4.size + (2 + x10_30.size + 1) ≤ 9223372036854775807
                                                       · rw [if_pos c54] at H
                                                         have c54b0 := eq_true c54
                                                         have c54b1 : decide (x9_4.size + (2 + x10_30.size + 1) ≤ 9223372036854775807) = true := decide_eq_true c54
                                                         try have c54b2 : (9223372036854775807 < x9_4.size + (2 + x10_30.size + 1)) = False := eq_false (Nat.not_lt.2 c54)
                                                         have H' := Aside0.mk H
                                                         clear H
                                                         have p158 : 0 ≤ (x11_4 : Int) := of_decide_eq_true (by first | (with_reducible assumption) | assumption)
                                                         have q158 : x11_4 < (t147.length : Int) := of_decide_eq_true (by first | (with_reducible assumption) | assumption)
                                                         obtain ⟨ad158, e158, hx158_0⟩ := Kd.at_int (Kd.R_reads' HO_5.out).2.2 x11_4 p158 q158
                                                         obtain rfl : ad154 = ad158 := (by injection e158)
                                                         replace p158 := eq_true p158
                                                         replace q158 := eq_true q158
                                                         go_wp2
                                                         repeat (go_quiet (fail); try go_wp2)
                                                         go_roundg kj40
                                                         case measure => have := HK1.out; have := HJ14.out; have := HJ20.out; have := HK4.out; have := HJ30.out; have := HJ40.out; omega
                                                         case rel => exact ⟨(x9_4 ++ (((⟨#[36, 39]⟩ : ByteArray) ++ x10_30) ++ (⟨#[39]⟩ : ByteArray))), ((⟨#[]⟩ : ByteArray)), (wrap64 (x11_4 + 1)), (by first | rfl | (simp; done) | (simp [*]; done)), (by first | rfl | (simp; done) | (simp [*]; done)), (by first | rfl | (simp; done) | (simp [*]; done)), H', ⟨by have := HK1.out; have := HJ14.out; have := HJ20.out; have := HK4.out; have := HJ30.out; have := HJ40.out; omega⟩, ⟨by (with_reducible repeat (first | apply Kd.R_alloc | apply Kd.R_drewN | apply Kd.R_drew)); exact HO_5.out⟩, ⟨by repeat (first | (with_reducible first | exact HB.out | apply below_alloc | apply pw_below_drewN | apply below_drew1) | exact HB.out)⟩⟩
                                                       · rw [if_neg c54] at H
                                                         exact absurd H (by simp)
                                                     · rw [if_neg c53] at H
                                                       exact absurd H (by simp)
                                                   · rw [if_neg c52] at H
                                                     exact absurd H (by simp)
                                                 · rw [if_neg c51] at H
                                                   have c51b0 : ((rd t147 x11_4) == 2) = false := beq_eq_false_iff_ne.mpr c51
                                                   have c51b1 : ((rd t147 x11_4) != 2) = true := bne_iff_ne.mpr c51
                                                   replace H := Option.bind_eq_some_iff.mp H
                                                   obtain ⟨t159, A550, H⟩ := H
                                                   replace H : (if x9_4.size + t159.size ≤ 9223372036854775807 then (domesdayref03_Quote.l1 kj40 a1 t147 (x9_4 ++ t159) (⟨#[]⟩ : ByteArray) (wrap64 (x11_4 + 1))) else (none)) = some r := H
                                                   have A55 := Aside0.mk A550
                                                   clear A550
                                                   by_cases c56 : x9_4.size + t159.size ≤ 9223372036854775807
                                                   · rw [if_pos c56] at H
                                                     have c56b0 := eq_true c56
                                                     have c56b1 : decide (x9_4.size + t159.size ≤ 9223372036854775807) = true := decide_eq_true c56
                                                     try have c56b2 : (9223372036854775807 < x9_4.size + t159.size) = False := eq_false (Nat.not_lt.2 c56)
                                                     have H' := Aside0.mk H
                                                     clear H
                                                     have p158 : 0 ≤ (x11_4 : Int) := of_decide_eq_true (by first | (with_reducible assumption) | assumption)
                                                     have q158 : x11_4 < (t147.length : Int) := of_decide_eq_true (by first | (with_reducible assumption) | assumption)
                                                     obtain ⟨ad158, e158, hx158_0⟩ := Kd.at_int (Kd.R_reads' HO_5.out).2.2 x11_4 p158 q158
                                                     obtain rfl : ad154 = ad158 := (by injection e158)
                                                     replace p158 := eq_true p158
                                                     replace q158 := eq_true q158
                                                     go_wp2_with (first | (go_at_call 22; (with_reducible refine (domesdayref03_Always.calls kj40 x10_30 t159 _ A55.out).mono ?_); rintro e w' ⟨rfl, ⟨nd, rfl⟩⟩; (try first | exact ⟨rfl, _, World.drewN_drewN _ _ _⟩ | exact ⟨rfl, _, Eq.trans (World.drewN_drewN _ _ _) (congrArg (World.drewN _) (Nat.add_assoc _ _ _))⟩)))
                                                     repeat (go_quiet (first | (go_at_call 22; (with_reducible refine (domesdayref03_Always.calls kj40 x10_30 t159 _ A55.out).mono ?_); rintro e w' ⟨rfl, ⟨nd, rfl⟩⟩; (try first | exact ⟨rfl, _, World.drewN_drewN _ _ _⟩ | exact ⟨rfl, _, Eq.trans (World.drewN_drewN _ _ _) (congrArg (World.drewN _) (Nat.add_assoc _ _ _))⟩))); try go_wp2_with (first | (go_at_call 22; (with_reducible refine (domesdayref03_Always.calls kj40 x10_30 t159 _ A55.out).mono ?_); rintro e w' ⟨rfl, ⟨nd, rfl⟩⟩; (try first | exact ⟨rfl, _, World.drewN_drewN _ _ _⟩ | exact ⟨rfl, _, Eq.trans (World.drewN_drewN _ _ _) (congrArg (World.drewN _) (Nat.add_assoc _ _ _))⟩))))
                                                     go_roundg kj40
                                                     case measure => have := HK1.out; have := HJ14.out; have := HJ20.out; have := HK4.out; have := HJ30.out; have := HJ40.out; omega
                                                     case rel => exact ⟨(x9_4 ++ t159), ((⟨#[]⟩ : ByteArray)), (wrap64 (x11_4 + 1)), (by first | rfl | (simp; done) | (simp [*]; done)), (by first | rfl | (simp; done) | (simp [*]; done)), (by first | rfl | (simp; done) | (simp [*]; done)), H', ⟨by have := HK1.out; have := HJ14.out; have := HJ20.out; have := HK4.out; have := HJ30.out; have := HJ40.out; omega⟩, ⟨by (with_reducible repeat (first | apply Kd.R_alloc | apply Kd.R_drewN | apply Kd.R_drew)); exact HO_5.out⟩, ⟨by repeat (first | (with_reducible first | exact HB.out | apply below_alloc | apply pw_below_drewN | apply below_drew1) | exact HB.out)⟩⟩
                                                   · rw [if_neg c56] at H
                                                     exact absurd H (by simp)
                                               · rw [if_neg c50] at H
                                                 exact absurd H (by simp)
                                             · rw [if_neg c49] at H
                                               exact absurd H (by simp)
                                           · replace c48 := Bool.eq_false_iff.mpr c48
                                             subst c48
                                             have H1 : (domesdayref03_Quote.l1 kj40 a1 t147 x9_4 x10_30 (wrap64 (x11_4 + 1))) = some r := by rw [if_neg (show ¬ (false = true) by decide)] at H; exact H
                                             clear H
                                             have H := H1
                                             clear H1
                                             have H' := Aside0.mk H
                                             clear H
                                             go_wp2
                                             repeat (go_quiet (fail); try go_wp2)
                                             go_roundg kj40
                                             case measure => have := HK1.out; have := HJ14.out; have := HJ20.out; have := HK4.out; have := HJ30.out; have := HJ40.out; omega
                                             case rel => exact ⟨(x9_4), (x10_30), (wrap64 (x11_4 + 1)), (by first | rfl | (simp; done) | (simp [*]; done)), (by first | rfl | (simp; done) | (simp [*]; done)), (by first | rfl | (simp; done) | (simp [*]; done)), H', ⟨by have := HK1.out; have := HJ14.out; have := HJ20.out; have := HK4.out; have := HJ30.out; have := HJ40.out; omega⟩, ⟨by (with_reducible repeat (first | apply Kd.R_alloc | apply Kd.R_drewN | apply Kd.R_drew)); exact HO_5.out⟩, ⟨by repeat (first | (with_reducible first | exact HB.out | apply below_alloc | apply pw_below_drewN | apply below_drew1) | exact HB.out)⟩⟩
                               · rw [if_neg c30] at H
                                 exact absurd H (by simp)
                             · rw [if_neg c29] at H
                               exact absurd H (by simp)
                           · rw [if_neg c28] at H
                             have c28b0 : decide (x11_4 < (a1.size : Int)) = false := decide_eq_false c28
                             clear c28
                             obtain rfl := Option.some.inj H
                             go_wp2
                             repeat (go_quiet (fail); try go_wp2)
                             go_ret
                             exact ⟨by first | rfl | (simp [errW_none, errW_some] <;> rfl) | (simp [*, errW_none, errW_some] <;> rfl), by repeat (first | (with_reducible first | exact HB.out | apply below_alloc | apply pw_below_drewN | apply below_drew1) | exact HB.out)⟩
                     · rw [if_neg c27] at H
                       have c27b0 : (a0 == 3) = false := beq_eq_false_iff_ne.mpr c27
                       have c27b1 : (a0 != 3) = true := bne_iff_ne.mpr c27
                       have HC57 := Aside0.mk H
                       clear H
                       go_upto_region 26 with (fail)
                       repeat (go_quiet (fail); go_upto_region 26 with (fail))
                       go_cut [136] (fun v136 wc => ∃ (kq : Nat) (x136_56 : Bool), v136 = .bool x136_56 ∧ Aside0 (domesdayref03_Quote.j6 kq a0 a1 t147 (⟨#[]⟩ : ByteArray) x136_56 = some r) ∧ Aside0 (kq ≤ kj20) ∧ Aside0 (Kd.R (Kd.int .i64) 3 wc w.heap.size (fun _ => True) (.slice Ao16 t147.length co16) t147) ∧ Aside0 (Below w.heap.size w wc))
                       case first =>
                         have H := HC57.out
                         clear HC57
                         by_cases c58 : a0 = 4
                         · rw [if_pos c58] at H
                           have c58b0 : (a0 == 4) = true := beq_iff_eq.mpr c58
                           have c58b1 : (a0 != 4) = false := bne_eq_false_iff_eq.mpr c58
                           clear c58
                           (first | rw [c58b0] | (simp only [i64_w, i32_w]; rw [c58b0]) | skip)
                           have H' := Aside0.mk H
                           clear H
                           go_wp2
                           repeat (go_quiet (fail); try go_wp2)
                           go_meet
                           case rel => exact ⟨_, (false), (by first | rfl | (simp; done) | (simp [*]; done)), H', ⟨by have := HK1.out; have := HJ14.out; have := HJ20.out; first | omega | exact Nat.le_refl _⟩, ⟨by (with_reducible repeat (first | apply Kd.R_alloc | apply Kd.R_drewN | apply Kd.R_drew)); exact HO_5.out⟩, ⟨by repeat (first | (with_reducible first | exact HB.out | apply below_alloc | apply pw_below_drewN | apply below_drew1) | exact HB.out)⟩⟩
                         · rw [if_neg c58] at H
                           have c58b0 : (a0 == 4) = false := beq_eq_false_iff_ne.mpr c58
                           have c58b1 : (a0 != 4) = true := bne_iff_ne.mpr c58
                           (first | rw [c58b0] | (simp only [i64_w, i32_w]; rw [c58b0]) | skip)
                           have H' := Aside0.mk H
                           clear H
                           go_wp2
                           repeat (go_quiet (fail); try go_wp2)
                           go_meet
                           case rel => exact ⟨_, ((a0 != 5)), (by first | rfl | (simp; done) | (simp [*]; done)), H', ⟨by have := HK1.out; have := HJ14.out; have := HJ20.out; first | omega | exact Nat.le_refl _⟩, ⟨by (with_reducible repeat (first | apply Kd.R_alloc | apply Kd.R_drewN | apply Kd.R_drew)); exact HO_5.out⟩, ⟨by repeat (first | (with_reducible first | exact HB.out | apply below_alloc | apply pw_below_drewN | apply below_drew1) | exact HB.out)⟩⟩
                       case rest =>
                         as_aux_lemma =>
                          clear HC57
                          try clear c1
                          try clear p1
                          try clear q1
                          try clear hx1
                          try clear c2
                          try clear p2
                          try clear c3
                          try clear p3
                          try clear q3
                          try clear hx3
                          try clear c4
                          try clear c5
                          try clear c5b0
                          try clear c6
                          try clear p6
                          try clear c7
                          try clear c7b0
                          try clear c8
                          try clear c10
                          try clear c11
                          try clear c13
                          try clear c13b0
                          try clear p15
                          try clear q15
                          try clear hx15
                          try clear c17
                          try clear c17b0
                          try clear c17b1
                          try clear c18
                          try clear c18b0
                          try clear c18b1
                          try clear c19
                          try clear c19b0
                          try clear c19b1
                          try clear c20
                          try clear c22
                          try clear c22b0
                          try clear c22b1
                          try clear c23
                          try clear c23b0
                          try clear c23b1
                          try clear c24
                          try clear c24b0
                          try clear c24b1
                          try clear c25
                          try clear c27
                          try clear c27b0
                          try clear c27b1
                          try clear c28
                          try clear c28b0
                          try clear c29
                          try clear c29b0
                          try clear c30
                          try clear c30b0
                          try clear c32
                          try clear c32b0
                          try clear c32b1
                          try clear p33
                          try clear q33
                          try clear hx33
                          try clear c35
                          try clear c35b0
                          try clear c35b1
                          try clear c35b2
                          try clear c37
                          try clear c37b0
                          try clear c38
                          try clear c38b0
                          try clear c38b1
                          try clear c39
                          try clear c39b0
                          try clear c39b1
                          try clear c40
                          try clear c40b0
                          try clear c40b1
                          try clear c40b2
                          try clear c42
                          try clear c42b0
                          try clear c42b1
                          try clear c44
                          try clear c44b0
                          try clear c45
                          try clear c45b0
                          try clear c46
                          try clear c46b0
                          try clear c47
                          try clear c47b0
                          try clear c48
                          try clear c49
                          try clear c49b0
                          try clear c50
                          try clear c50b0
                          try clear c51
                          try clear c51b0
                          try clear c51b1
                          try clear c52
                          try clear c52b0
                          try clear c52b1
                          try clear c52b2
                          try clear c53
                          try clear c53b0
                          try clear c53b1
                          try clear c53b2
                          try clear c54
                          try clear c54b0
                          try clear c54b1
                          try clear c54b2
                          try clear c56
                          try clear c56b0
                          try clear c56b1
                          try clear c56b2
                          try clear c58
                          try clear c58b0
                          try clear c58b1
                          try clear hx150_0
                          try clear hx151_0
                          try clear hx152_0
                          try clear hx154_0
                          try clear hx156_0
                          try clear hx157_0
                          try clear hx158_0
                          try clear p1
                          try clear p15
                          try clear p150
                          try clear p151
                          try clear p152
                          try clear p154
                          try clear p156
                          try clear p157
                          try clear p158
                          try clear p2
                          try clear p3
                          try clear p33
                          try clear p6
                          try clear q1
                          try clear q15
                          try clear q150
                          try clear q151
                          try clear q152
                          try clear q154
                          try clear q156
                          try clear q157
                          try clear q158
                          try clear q3
                          try clear q33
                          obtain ⟨kq, x136_56, rfl, HA, HJ56, HO_5, HB⟩ := hcut
                          cases kq with
                          | zero => exact absurd HA.out (by simp [domesdayref03_Quote.j6])
                          | succ kj56 =>
                            have H := HA.out
                            clear HA
                            simp only [domesdayref03_Quote.j6] at H
                            by_cases c59 : x136_56 = true
                            · subst c59
                              have H1 : (some (⟨#[]⟩ : ByteArray)) = some r := by rw [if_pos rfl] at H; exact H
                              clear H
                              have H := H1
                              clear H1
                              obtain rfl := Option.some.inj H
                              go_wp2
                              repeat (go_quiet (fail); try go_wp2)
                              go_ret
                              exact ⟨by first | rfl | (simp [errW_none, errW_some] <;> rfl) | (simp [*, errW_none, errW_some] <;> rfl), by repeat (first | (with_reducible first | exact HB.out | apply below_alloc | apply pw_below_drewN | apply below_drew1) | exact HB.out)⟩
                            · replace c59 := Bool.eq_false_iff.mpr c59
                              subst c59
                              have H1 : (domesdayref03_Quote.l2 kj56 a0 a1 t147 (⟨#[]⟩ : ByteArray) 0) = some r := by rw [if_neg (show ¬ (false = true) by decide)] at H; exact H
                              clear H
                              have H := H1
                              clear H1
                              have H' := Aside0.mk H
                              clear H
                              go_wp2
                              repeat (go_quiet (fail); try go_wp2)
                              go_loopg [9, 12] kj56 (fun kq v9 v12 w' => ∃ (x9_5 : ByteArray) (x12_5 : Int), v9 = .string x9_5 ∧ v12 = .int .i64 x12_5 ∧ Aside0 (domesdayref03_Quote.l2 kq a0 a1 t147 x9_5 x12_5 = some r) ∧ Aside0 (kq ≤ kj56) ∧ Aside0 (Kd.R (Kd.int .i64) 3 w' w.heap.size (fun _ => True) (.slice Ao16 t147.length co16) t147) ∧ Aside0 (Below w.heap.size w w'))
                              case atStart => exact ⟨((⟨#[]⟩ : ByteArray)), (0), (by first | rfl | (simp; done) | (simp [*]; done)), (by first | rfl | (simp; done) | (simp [*]; done)), H', ⟨Nat.le_refl _⟩, ⟨by (with_reducible repeat (first | apply Kd.R_alloc | apply Kd.R_drewN | apply Kd.R_drew)); exact HO_5.out⟩, ⟨by repeat (first | (with_reducible first | exact HB.out | apply below_alloc | apply pw_below_drewN | apply below_drew1) | exact HB.out)⟩⟩
                              case round =>
                                clear H'
                                try clear c1
                                try clear p1
                                try clear q1
                                try clear hx1
                                try clear c2
                                try clear p2
                                try clear c3
                                try clear p3
                                try clear q3
                                try clear hx3
                                try clear c4
                                try clear c5
                                try clear c5b0
                                try clear c6
                                try clear p6
                                try clear c7
                                try clear c7b0
                                try clear c8
                                try clear c10
                                try clear c11
                                try clear c13
                                try clear c13b0
                                try clear p15
                                try clear q15
                                try clear hx15
                                try clear c17
                                try clear c17b0
                                try clear c17b1
                                try clear c18
                                try clear c18b0
                                try clear c18b1
                                try clear c19
                                try clear c19b0
                                try clear c19b1
                                try clear c20
                                try clear c22
                                try clear c22b0
                                try clear c22b1
                                try clear c23
                                try clear c23b0
                                try clear c23b1
                                try clear c24
                                try clear c24b0
                                try clear c24b1
                                try clear c25
                                try clear c27
                                try clear c27b0
                                try clear c27b1
                                try clear c28
                                try clear c28b0
                                try clear c29
                                try clear c29b0
                                try clear c30
                                try clear c30b0
                                try clear c32
                                try clear c32b0
                                try clear c32b1
                                try clear p33
                                try clear q33
                                try clear hx33
                                try clear c35
                                try clear c35b0
                                try clear c35b1
                                try clear c35b2
                                try clear c37
                                try clear c37b0
                                try clear c38
                                try clear c38b0
                                try clear c38b1
                                try clear c39
                                try clear c39b0
                                try clear c39b1
                                try clear c40
                                try clear c40b0
                                try clear c40b1
                                try clear c40b2
                                try clear c42
                                try clear c42b0
                                try clear c42b1
                                try clear c44
                                try clear c44b0
                                try clear c45
                                try clear c45b0
                                try clear c46
                                try clear c46b0
                                try clear c47
                                try clear c47b0
                                try clear c48
                                try clear c49
                                try clear c49b0
                                try clear c50
                                try clear c50b0
                                try clear c51
                                try clear c51b0
                                try clear c51b1
                                try clear c52
                                try clear c52b0
                                try clear c52b1
                                try clear c52b2
                                try clear c53
                                try clear c53b0
                                try clear c53b1
                                try clear c53b2
                                try clear c54
                                try clear c54b0
                                try clear c54b1
                                try clear c54b2
                                try clear c56
                                try clear c56b0
                                try clear c56b1
                                try clear c56b2
                                try clear c58
                                try clear c58b0
                                try clear c58b1
                                try clear c59
                                try clear hx150_0
                                try clear hx151_0
                                try clear hx152_0
                                try clear hx154_0
                                try clear hx156_0
                                try clear hx157_0
                                try clear hx158_0
                                try clear p1
                                try clear p15
                                try clear p150
                                try clear p151
                                try clear p152
                                try clear p154
                                try clear p156
                                try clear p157
                                try clear p158
                                try clear p2
                                try clear p3
                                try clear p33
                                try clear p6
                                try clear q1
                                try clear q15
                                try clear q150
                                try clear q151
                                try clear q152
                                try clear q154
                                try clear q156
                                try clear q157
                                try clear q158
                                try clear q3
                                try clear q33
                                obtain ⟨x9_5, x12_5, rfl, rfl, HA, HK5, HO_5, HB⟩ := hrel
                                cases gk with
                                | zero => exact absurd HA.out (by simp [domesdayref03_Quote.l2])
                                | succ k5 =>
                                  have H := HA.out
                                  clear HA
                                  simp only [domesdayref03_Quote.l2] at H
                                  by_cases c60 : x12_5 < (a1.size : Int)
                                  · rw [if_pos c60] at H
                                    have c60b0 : decide (x12_5 < (a1.size : Int)) = true := decide_eq_true c60
                                    clear c60
                                    by_cases c61 : 0 ≤ x12_5
                                    · rw [if_pos c61] at H
                                      have c61b0 : decide (0 ≤ x12_5) = true := decide_eq_true c61
                                      clear c61
                                      by_cases c63 : x12_5 < (t147.length : Int)
                                      · rw [if_pos c63] at H
                                        have c63b0 : decide (x12_5 < (t147.length : Int)) = true := decide_eq_true c63
                                        clear c63
                                        by_cases c64 : (rd t147 x12_5) = 2
                                        · rw [if_pos c64] at H
                                          have c64b0 : ((rd t147 x12_5) == 2) = true := beq_iff_eq.mpr c64
                                          have c64b1 : ((rd t147 x12_5) != 2) = false := bne_eq_false_iff_eq.mpr c64
                                          clear c64
                                          replace H := Option.bind_eq_some_iff.mp H
                                          obtain ⟨t161, A650, H⟩ := H
                                          replace H : (if x9_5.size + t161.size ≤ 9223372036854775807 then (domesdayref03_Quote.l2 k5 a0 a1 t147 (x9_5 ++ t161) (wrap64 (x12_5 + 1))) else (none)) = some r := H
                                          have A65 := Aside0.mk A650
                                          clear A650
                                          by_cases c66 : x9_5.size + t161.size ≤ 9223372036854775807
                                          · rw [if_pos c66] at H
                                            have c66b0 := eq_true c66
                                            have c66b1 : decide (x9_5.size + t161.size ≤ 9223372036854775807) = true := decide_eq_true c66
                                            try have c66b2 : (9223372036854775807 < x9_5.size + t161.size) = False := eq_false (Nat.not_lt.2 c66)
                                            have H' := Aside0.mk H
                                            clear H
                                            have p62 : 0 ≤ (x12_5 : Int) := of_decide_eq_true (by first | (with_reducible assumption) | assumption)
                                            have q62 : x12_5 < (a1.size : Int) := of_decide_eq_true (by first | (with_reducible assumption) | assumption)
                                            have hx62 := bt_at a1 x12_5
                                            replace p62 := eq_true p62
                                            replace q62 := eq_true q62
                                            have p160 : 0 ≤ (x12_5 : Int) := of_decide_eq_true (by first | (with_reducible assumption) | assumption)
                                            have q160 : x12_5 < (t147.length : Int) := of_decide_eq_true (by first | (with_reducible assumption) | assumption)
                                            obtain ⟨ad160, e160, hx160_0⟩ := Kd.at_int (Kd.R_reads' HO_5.out).2.2 x12_5 p160 q160
                                            cases e160
                                            replace p160 := eq_true p160
                                            replace q160 := eq_true q160
                                            go_wp2_with (first | (go_at_call 23; (with_reducible refine (domesdayref03_Escape.calls (bt a1 x12_5) t161 _ A65.out).mono ?_); rintro e w67 ⟨rfl, hb⟩; have n0_ := Aside0.mk (Kd.R_below (by (with_reducible repeat (first | apply Kd.R_alloc | apply Kd.R_drewN | apply Kd.R_drew)); exact HO_5.out) hb); have n1_ := Aside0.mk (below_step (by repeat (first | (with_reducible first | exact HB.out | apply below_alloc | apply pw_below_drewN | apply below_drew1) | exact HB.out)) hb); clear HO_5; clear HB; have HO_5 := n0_; have HB := n1_; clear n0_ n1_; (try clear hb); (try clear hb2); (try clear hk); (try clear hi)))
                                            repeat (go_quiet (first | (go_at_call 23; (with_reducible refine (domesdayref03_Escape.calls (bt a1 x12_5) t161 _ A65.out).mono ?_); rintro e w67 ⟨rfl, hb⟩; have n0_ := Aside0.mk (Kd.R_below (by (with_reducible repeat (first | apply Kd.R_alloc | apply Kd.R_drewN | apply Kd.R_drew)); exact HO_5.out) hb); have n1_ := Aside0.mk (below_step (by repeat (first | (with_reducible first | exact HB.out | apply below_alloc | apply pw_below_drewN | apply below_drew1) | exact HB.out)) hb); clear HO_5; clear HB; have HO_5 := n0_; have HB := n1_; clear n0_ n1_; (try clear hb); (try clear hb2); (try clear hk); (try clear hi))); try go_wp2_with (first | (go_at_call 23; (with_reducible refine (domesdayref03_Escape.calls (bt a1 x12_5) t161 _ A65.out).mono ?_); rintro e w67 ⟨rfl, hb⟩; have n0_ := Aside0.mk (Kd.R_below (by (with_reducible repeat (first | apply Kd.R_alloc | apply Kd.R_drewN | apply Kd.R_drew)); exact HO_5.out) hb); have n1_ := Aside0.mk (below_step (by repeat (first | (with_reducible first | exact HB.out | apply below_alloc | apply pw_below_drewN | apply below_drew1) | exact HB.out)) hb); clear HO_5; clear HB; have HO_5 := n0_; have HB := n1_; clear n0_ n1_; (try clear hb); (try clear hb2); (try clear hk); (try clear hi))))
                                            go_roundg k5
                                            case measure => have := HK1.out; have := HJ14.out; have := HJ20.out; have := HJ56.out; have := HK5.out; omega
                                            case rel => exact ⟨(x9_5 ++ t161), (wrap64 (x12_5 + 1)), (by first | rfl | (simp; done) | (simp [*]; done)), (by first | rfl | (simp; done) | (simp [*]; done)), H', ⟨by have := HK1.out; have := HJ14.out; have := HJ20.out; have := HJ56.out; have := HK5.out; omega⟩, ⟨by (with_reducible repeat (first | apply Kd.R_alloc | apply Kd.R_drewN | apply Kd.R_drew)); exact HO_5.out⟩, ⟨by repeat (first | (with_reducible first | exact HB.out | apply below_alloc | apply pw_below_drewN | apply below_drew1) | exact HB.out)⟩⟩
                                          · rw [if_neg c66] at H
                                            exact absurd H (by simp)
                                        · rw [if_neg c64] at H
                                          have c64b0 : ((rd t147 x12_5) == 2) = false := beq_eq_false_iff_ne.mpr c64
                                          have c64b1 : ((rd t147 x12_5) != 2) = true := bne_iff_ne.mpr c64
                                          by_cases c68 : (bt a1 x12_5) = 92
                                          · rw [if_pos c68] at H
                                            have c68b0 : ((bt a1 x12_5) == 92) = true := beq_iff_eq.mpr c68
                                            have c68b1 : ((bt a1 x12_5) != 92) = false := bne_eq_false_iff_eq.mpr c68
                                            clear c68
                                            by_cases c69 : x9_5.size + 1 ≤ 9223372036854775807
                                            · rw [if_pos c69] at H
                                              have c69b0 := eq_true c69
                                              have c69b1 : decide (x9_5.size + 1 ≤ 9223372036854775807) = true := decide_eq_true c69
                                              try have c69b2 : (9223372036854775807 < x9_5.size + 1) = False := eq_false (Nat.not_lt.2 c69)
                                              have c70b0 := eq_true (of_decide_eq_true (by first | (with_reducible assumption) | assumption) : 0 ≤ x12_5)
                                              by_cases c71 : x12_5 ≤ (wrap64 (x12_5 + 1))
                                              · rw [if_pos c71] at H
                                                have c71b0 := eq_true c71
                                                have c71b1 : decide (x12_5 ≤ (wrap64 (x12_5 + 1))) = true := decide_eq_true c71
                                                by_cases c72 : (wrap64 (x12_5 + 1)) ≤ (a1.size : Int)
                                                · rw [if_pos c72] at H
                                                  have c72b0 := eq_true c72
                                                  have c72b1 : decide ((wrap64 (x12_5 + 1)) ≤ (a1.size : Int)) = true := decide_eq_true c72
                                                  by_cases c73 : x9_5.size + 1 + (a1.extract (x12_5 : Int).toNat ((wrap64 (x12_5 + 1)) : Int).toNat).size ≤ 9223372036854775807
                                                  · rw [if_pos c73] at H
                                                    have c73b0 := eq_true c73
                                                    have c73b1 : decide (x9_5.size + 1 + (a1.extract (x12_5 : Int).toNat ((wrap64 (x12_5 + 1)) : Int).toNat).size ≤ 9223372036854775807) = true := decide_eq_true c73
                                                    try have c73b2 : (9223372036854775807 < x9_5.size + 1 + (a1.extract (x12_5 : Int).toNat ((wrap64 (x12_5 + 1)) : Int).toNat).size) = False := eq_false (Nat.not_lt.2 c73)
                                                    (try (have c73b3 := c73; clear c73 c73b0 c73b1 c73b2; simp [go_sem, *] at c73b3; have c73b4 := eq_false (Nat.not_lt.2 c73b3)))
                                                    have H' := Aside0.mk H
                                                    clear H
                                                    have p62 : 0 ≤ (x12_5 : Int) := of_decide_eq_true (by first | (with_reducible assumption) | assumption)
                                                    have q62 : x12_5 < (a1.size : Int) := of_decide_eq_true (by first | (with_reducible assumption) | assumption)
                                                    have hx62 := bt_at a1 x12_5
                                                    replace p62 := eq_true p62
                                                    replace q62 := eq_true q62
                                                    have p160 : 0 ≤ (x12_5 : Int) := of_decide_eq_true (by first | (with_reducible assumption) | assumption)
                                                    have q160 : x12_5 < (t147.length : Int) := of_decide_eq_true (by first | (with_reducible assumption) | assumption)
                                                    obtain ⟨ad160, e160, hx160_0⟩ := Kd.at_int (Kd.R_reads' HO_5.out).2.2 x12_5 p160 q160
                                                    cases e160
                                                    replace p160 := eq_true p160
                                                    replace q160 := eq_true q160
                                                    go_wp2
                                                    repeat (go_quiet (fail); try go_wp2)
                                                    go_roundg k5
                                                    case measure => have := HK1.out; have := HJ14.out; have := HJ20.out; have := HJ56.out; have := HK5.out; omega
                                                    case rel => exact ⟨((x9_5 ++ (⟨#[92]⟩ : ByteArray)) ++ (a1.extract (x12_5 : Int).toNat ((wrap64 (x12_5 + 1)) : Int).toNat)), (wrap64 (x12_5 + 1)), (by first | rfl | (simp; done) | (simp [*]; done)), (by first | rfl | (simp; done) | (simp [*]; done)), H', ⟨by have := HK1.out; have := HJ14.out; have := HJ20.out; have := HJ56.out; have := HK5.out; omega⟩, ⟨by (with_reducible repeat (first | apply Kd.R_alloc | apply Kd.R_drewN | apply Kd.R_drew)); exact HO_5.out⟩, ⟨by repeat (first | (with_reducible first | exact HB.out | apply below_alloc | apply pw_below_drewN | apply below_drew1) | exact HB.out)⟩⟩
                                                  · rw [if_neg c73] at H
                                                    exact absurd H (by simp)
                                                · rw [if_neg c72] at H
                                                  exact absurd H (by simp)
                                              · rw [if_neg c71] at H
                                                exact absurd H (by simp)
                                            · rw [if_neg c69] at H
                                              exact absurd H (by simp)
                                          · rw [if_neg c68] at H
                                            have c68b0 : ((bt a1 x12_5) == 92) = false := beq_eq_false_iff_ne.mpr c68
                                            have c68b1 : ((bt a1 x12_5) != 92) = true := bne_iff_ne.mpr c68
                                            by_cases c74 : (bt a1 x12_5) = 34
                                            · rw [if_pos c74] at H
                                              have c74b0 : ((bt a1 x12_5) == 34) = true := beq_iff_eq.mpr c74
                                              have c74b1 : ((bt a1 x12_5) != 34) = false := bne_eq_false_iff_eq.mpr c74
                                              clear c74
                                              by_cases c75 : a0 = 4
                                              · rw [if_pos c75] at H
                                                have c75b0 : (a0 == 4) = true := beq_iff_eq.mpr c75
                                                have c75b1 : (a0 != 4) = false := bne_eq_false_iff_eq.mpr c75
                                                clear c75
                                                by_cases c76 : x9_5.size + 1 ≤ 9223372036854775807
                                                · rw [if_pos c76] at H
                                                  have c76b0 := eq_true c76
                                                  have c76b1 : decide (x9_5.size + 1 ≤ 9223372036854775807) = true := decide_eq_true c76
                                                  try have c76b2 : (9223372036854775807 < x9_5.size + 1) = False := eq_false (Nat.not_lt.2 c76)
                                                  have c77b0 := eq_true (of_decide_eq_true (by first | (with_reducible assumption) | assumption) : 0 ≤ x12_5)
                                                  by_cases c78 : x12_5 ≤ (wrap64 (x12_5 + 1))
                                                  · rw [if_pos c78] at H
                                                    have c78b0 := eq_true c78
                                                    have c78b1 : decide (x12_5 ≤ (wrap64 (x12_5 + 1))) = true := decide_eq_true c78
                                                    by_cases c79 : (wrap64 (x12_5 + 1)) ≤ (a1.size : Int)
                                                    · rw [if_pos c79] at H
                                                      have c79b0 := eq_true c79
                                                      have c79b1 : decide ((wrap64 (x12_5 + 1)) ≤ (a1.size : Int)) = true := decide_eq_true c79
                                                      by_cases c80 : x9_5.size + 1 + (a1.extract (x12_5 : Int).toNat ((wrap64 (x12_5 + 1)) : Int).toNat).size ≤ 9223372036854775807
                                                      · rw [if_pos c80] at H
                                                        have c80b0 := eq_true c80
                                                        have c80b1 : decide (x9_5.size + 1 + (a1.extract (x12_5 : Int).toNat ((wrap64 (x12_5 + 1)) : Int).toNat).size ≤ 9223372036854775807) = true := decide_eq_true c80
                                                        try have c80b2 : (9223372036854775807 < x9_5.size + 1 + (a1.extract (x12_5 : Int).toNat ((wrap64 (x12_5 + 1)) : Int).toNat).size) = False := eq_false (Nat.not_lt.2 c80)
                                                        (try (have c80b3 := c80; clear c80 c80b0 c80b1 c80b2; simp [go_sem, *] at c80b3; have c80b4 := eq_false (Nat.not_lt.2 c80b3)))
                                                        have H' := Aside0.mk H
                                                        clear H
                                                        have p62 : 0 ≤ (x12_5 : Int) := of_decide_eq_true (by first | (with_reducible assumption) | assumption)
                                                        have q62 : x12_5 < (a1.size : Int) := of_decide_eq_true (by first | (with_reducible assumption) | assumption)
                                                        have hx62 := bt_at a1 x12_5
                                                        replace p62 := eq_true p62
                                                        replace q62 := eq_true q62
                                                        have p160 : 0 ≤ (x12_5 : Int) := of_decide_eq_true (by first | (with_reducible assumption) | assumption)
                                                        have q160 : x12_5 < (t147.length : Int) := of_decide_eq_true (by first | (with_reducible assumption) | assumption)
                                                        obtain ⟨ad160, e160, hx160_0⟩ := Kd.at_int (Kd.R_reads' HO_5.out).2.2 x12_5 p160 q160
                                                        cases e160
                                                        replace p160 := eq_true p160
                                                        replace q160 := eq_true q160
                                                        go_wp2
                                                        repeat (go_quiet (fail); try go_wp2)
                                                        go_roundg k5
                                                        case measure => have := HK1.out; have := HJ14.out; have := HJ20.out; have := HJ56.out; have := HK5.out; omega
                                                        case rel => exact ⟨((x9_5 ++ (⟨#[92]⟩ : ByteArray)) ++ (a1.extract (x12_5 : Int).toNat ((wrap64 (x12_5 + 1)) : Int).toNat)), (wrap64 (x12_5 + 1)), (by first | rfl | (simp; done) | (simp [*]; done)), (by first | rfl | (simp; done) | (simp [*]; done)), H', ⟨by have := HK1.out; have := HJ14.out; have := HJ20.out; have := HJ56.out; have := HK5.out; omega⟩, ⟨by (with_reducible repeat (first | apply Kd.R_alloc | apply Kd.R_drewN | apply Kd.R_drew)); exact HO_5.out⟩, ⟨by repeat (first | (with_reducible first | exact HB.out | apply below_alloc | apply pw_below_drewN | apply below_drew1) | exact HB.out)⟩⟩
                                                      · rw [if_neg c80] at H
                                                        exact absurd H (by simp)
                                                    · rw [if_neg c79] at H
                                                      exact absurd H (by simp)
                                                  · rw [if_neg c78] at H
                                                    exact absurd H (by simp)
                                                · rw [if_neg c76] at H
                                                  exact absurd H (by simp)
                                              · rw [if_neg c75] at H
                                                have c75b0 : (a0 == 4) = false := beq_eq_false_iff_ne.mpr c75
                                                have c75b1 : (a0 != 4) = true := bne_iff_ne.mpr c75
                                                by_cases c81 : (bt a1 x12_5) = 32
                                                · rw [if_pos c81] at H
                                                  have c81b0 : ((bt a1 x12_5) == 32) = true := beq_iff_eq.mpr c81
                                                  have c81b1 : ((bt a1 x12_5) != 32) = false := bne_eq_false_iff_eq.mpr c81
                                                  clear c81
                                                  by_cases c82 : a0 = 5
                                                  · rw [if_pos c82] at H
                                                    have c82b0 : (a0 == 5) = true := beq_iff_eq.mpr c82
                                                    have c82b1 : (a0 != 5) = false := bne_eq_false_iff_eq.mpr c82
                                                    clear c82
                                                    by_cases c83 : x9_5.size + 1 ≤ 9223372036854775807
                                                    · rw [if_pos c83] at H
                                                      have c83b0 := eq_true c83
                                                      have c83b1 : decide (x9_5.size + 1 ≤ 9223372036854775807) = true := decide_eq_true c83
                                                      try have c83b2 : (9223372036854775807 < x9_5.size + 1) = False := eq_false (Nat.not_lt.2 c83)
                                                      have c84b0 := eq_true (of_decide_eq_true (by first | (with_reducible assumption) | assumption) : 0 ≤ x12_5)
                                                      by_cases c85 : x12_5 ≤ (wrap64 (x12_5 + 1))
                                                      · rw [if_pos c85] at H
                                                        have c85b0 := eq_true c85
                                                        have c85b1 : decide (x12_5 ≤ (wrap64 (x12_5 + 1))) = true := decide_eq_true c85
                                                        by_cases c86 : (wrap64 (x12_5 + 1)) ≤ (a1.size : Int)
                                                        · rw [if_pos c86] at H
                                                          have c86b0 := eq_true c86
                                                          have c86b1 : decide ((wrap64 (x12_5 + 1)) ≤ (a1.size : Int)) = true := decide_eq_true c86
                                                          by_cases c87 : x9_5.size + 1 + (a1.extract (x12_5 : Int).toNat ((wrap64 (x12_5 + 1)) : Int).toNat).size ≤ 9223372036854775807
                                                          · rw [if_pos c87] at H
                                                            have c87b0 := eq_true c87
                                                            have c87b1 : decide (x9_5.size + 1 + (a1.extract (x12_5 : Int).toNat ((wrap64 (x12_5 + 1)) : Int).toNat).size ≤ 9223372036854775807) = true := decide_eq_true c87
                                                            try have c87b2 : (9223372036854775807 < x9_5.size + 1 + (a1.extract (x12_5 : Int).toNat ((wrap64 (x12_5 + 1)) : Int).toNat).size) = False := eq_false (Nat.not_lt.2 c87)
                                                            (try (have c87b3 := c87; clear c87 c87b0 c87b1 c87b2; simp [go_sem, *] at c87b3; have c87b4 := eq_false (Nat.not_lt.2 c87b3)))
                                                            have H' := Aside0.mk H
                                                            clear H
                                                            have p62 : 0 ≤ (x12_5 : Int) := of_decide_eq_true (by first | (with_reducible assumption) | assumption)
                                                            have q62 : x12_5 < (a1.size : Int) := of_decide_eq_true (by first | (with_reducible assumption) | assumption)
                                                            have hx62 := bt_at a1 x12_5
                                                            replace p62 := eq_true p62
                                                            replace q62 := eq_true q62
                                                            have p160 : 0 ≤ (x12_5 : Int) := of_decide_eq_true (by first | (with_reducible assumption) | assumption)
                                                            have q160 : x12_5 < (t147.length : Int) := of_decide_eq_true (by first | (with_reducible assumption) | assumption)
                                                            obtain ⟨ad160, e160, hx160_0⟩ := Kd.at_int (Kd.R_reads' HO_5.out).2.2 x12_5 p160 q160
                                                            cases e160
                                                            replace p160 := eq_true p160
                                                            replace q160 := eq_true q160
                                                            go_wp2
                                                            repeat (go_quiet (fail); try go_wp2)
                                                            go_roundg k5
                                                            case measure => have := HK1.out; have := HJ14.out; have := HJ20.out; have := HJ56.out; have := HK5.out; omega
                                                            case rel => exact ⟨((x9_5 ++ (⟨#[92]⟩ : ByteArray)) ++ (a1.extract (x12_5 : Int).toNat ((wrap64 (x12_5 + 1)) : Int).toNat)), (wrap64 (x12_5 + 1)), (by first | rfl | (simp; done) | (simp [*]; done)), (by first | rfl | (simp; done) | (simp [*]; done)), H', ⟨by have := HK1.out; have := HJ14.out; have := HJ20.out; have := HJ56.out; have := HK5.out; omega⟩, ⟨by (with_reducible repeat (first | apply Kd.R_alloc | apply Kd.R_drewN | apply Kd.R_drew)); exact HO_5.out⟩, ⟨by repeat (first | (with_reducible first | exact HB.out | apply below_alloc | apply pw_below_drewN | apply below_drew1) | exact HB.out)⟩⟩
                                                          · rw [if_neg c87] at H
                                                            exact absurd H (by simp)
                                                        · rw [if_neg c86] at H
                                                          exact absurd H (by simp)
                                                      · rw [if_neg c85] at H
                                                        exact absurd H (by simp)
                                                    · rw [if_neg c83] at H
                                                      exact absurd H (by simp)
                                                  · rw [if_neg c82] at H
                                                    have c82b0 : (a0 == 5) = false := beq_eq_false_iff_ne.mpr c82
                                                    have c82b1 : (a0 != 5) = true := bne_iff_ne.mpr c82
                                                    have c88b0 := eq_true (of_decide_eq_true (by first | (with_reducible assumption) | assumption) : 0 ≤ x12_5)
                                                    by_cases c89 : x12_5 ≤ (wrap64 (x12_5 + 1))
                                                    · rw [if_pos c89] at H
                                                      have c89b0 := eq_true c89
                                                      have c89b1 : decide (x12_5 ≤ (wrap64 (x12_5 + 1))) = true := decide_eq_true c89
                                                      by_cases c90 : (wrap64 (x12_5 + 1)) ≤ (a1.size : Int)
                                                      · rw [if_pos c90] at H
                                                        have c90b0 := eq_true c90
                                                        have c90b1 : decide ((wrap64 (x12_5 + 1)) ≤ (a1.size : Int)) = true := decide_eq_true c90
                                                        by_cases c91 : x9_5.size + (a1.extract (x12_5 : Int).toNat ((wrap64 (x12_5 + 1)) : Int).toNat).size ≤ 9223372036854775807
                                                        · rw [if_pos c91] at H
                                                          have c91b0 := eq_true c91
                                                          have c91b1 : decide (x9_5.size + (a1.extract (x12_5 : Int).toNat ((wrap64 (x12_5 + 1)) : Int).toNat).size ≤ 9223372036854775807) = true := decide_eq_true c91
                                                          try have c91b2 : (9223372036854775807 < x9_5.size + (a1.extract (x12_5 : Int).toNat ((wrap64 (x12_5 + 1)) : Int).toNat).size) = False := eq_false (Nat.not_lt.2 c91)
                                                          (try (have c91b3 := c91; clear c91 c91b0 c91b1 c91b2; simp [go_sem, *] at c91b3; have c91b4 := eq_false (Nat.not_lt.2 c91b3)))
                                                          have H' := Aside0.mk H
                                                          clear H
                                                          have p62 : 0 ≤ (x12_5 : Int) := of_decide_eq_true (by first | (with_reducible assumption) | assumption)
                                                          have q62 : x12_5 < (a1.size : Int) := of_decide_eq_true (by first | (with_reducible assumption) | assumption)
                                                          have hx62 := bt_at a1 x12_5
                                                          replace p62 := eq_true p62
                                                          replace q62 := eq_true q62
                                                          have p160 : 0 ≤ (x12_5 : Int) := of_decide_eq_true (by first | (with_reducible assumption) | assumption)
                                                          have q160 : x12_5 < (t147.length : Int) := of_decide_eq_true (by first | (with_reducible assumption) | assumption)
                                                          obtain ⟨ad160, e160, hx160_0⟩ := Kd.at_int (Kd.R_reads' HO_5.out).2.2 x12_5 p160 q160
                                                          cases e160
                                                          replace p160 := eq_true p160
                                                          replace q160 := eq_true q160
                                                          go_wp2
                                                          repeat (go_quiet (fail); try go_wp2)
                                                          go_roundg k5
                                                          case measure => have := HK1.out; have := HJ14.out; have := HJ20.out; have := HJ56.out; have := HK5.out; omega
                                                          case rel => exact ⟨(x9_5 ++ (a1.extract (x12_5 : Int).toNat ((wrap64 (x12_5 + 1)) : Int).toNat)), (wrap64 (x12_5 + 1)), (by first | rfl | (simp; done) | (simp [*]; done)), (by first | rfl | (simp; done) | (simp [*]; done)), H', ⟨by have := HK1.out; have := HJ14.out; have := HJ20.out; have := HJ56.out; have := HK5.out; omega⟩, ⟨by (with_reducible repeat (first | apply Kd.R_alloc | apply Kd.R_drewN | apply Kd.R_drew)); exact HO_5.out⟩, ⟨by repeat (first | (with_reducible first | exact HB.out | apply below_alloc | apply pw_below_drewN | apply below_drew1) | exact HB.out)⟩⟩
                                                        · rw [if_neg c91] at H
                                                          exact absurd H (by simp)
                                                      · rw [if_neg c90] at H
                                                        exact absurd H (by simp)
                                                    · rw [if_neg c89] at H
                                                      exact absurd H (by simp)
                                                · rw [if_neg c81] at H
                                                  have c81b0 : ((bt a1 x12_5) == 32) = false := beq_eq_false_iff_ne.mpr c81
                                                  have c81b1 : ((bt a1 x12_5) != 32) = true := bne_iff_ne.mpr c81
                                                  have c92b0 := eq_true (of_decide_eq_true (by first | (with_reducible assumption) | assumption) : 0 ≤ x12_5)
                                                  by_cases c93 : x12_5 ≤ (wrap64 (x12_5 + 1))
                                                  · rw [if_pos c93] at H
                                                    have c93b0 := eq_true c93
                                                    have c93b1 : decide (x12_5 ≤ (wrap64 (x12_5 + 1))) = true := decide_eq_true c93
                                                    by_cases c94 : (wrap64 (x12_5 + 1)) ≤ (a1.size : Int)
                                                    · rw [if_pos c94] at H
                                                      have c94b0 := eq_true c94
                                                      have c94b1 : decide ((wrap64 (x12_5 + 1)) ≤ (a1.size : Int)) = true := decide_eq_true c94
                                                      by_cases c95 : x9_5.size + (a1.extract (x12_5 : Int).toNat ((wrap64 (x12_5 + 1)) : Int).toNat).size ≤ 9223372036854775807
                                                      · rw [if_pos c95] at H
                                                        have c95b0 := eq_true c95
                                                        have c95b1 : decide (x9_5.size + (a1.extract (x12_5 : Int).toNat ((wrap64 (x12_5 + 1)) : Int).toNat).size ≤ 9223372036854775807) = true := decide_eq_true c95
                                                        try have c95b2 : (9223372036854775807 < x9_5.size + (a1.extract (x12_5 : Int).toNat ((wrap64 (x12_5 + 1)) : Int).toNat).size) = False := eq_false (Nat.not_lt.2 c95)
                                                        (try (have c95b3 := c95; clear c95 c95b0 c95b1 c95b2; simp [go_sem, *] at c95b3; have c95b4 := eq_false (Nat.not_lt.2 c95b3)))
                                                        have H' := Aside0.mk H
                                                        clear H
                                                        have p62 : 0 ≤ (x12_5 : Int) := of_decide_eq_true (by first | (with_reducible assumption) | assumption)
                                                        have q62 : x12_5 < (a1.size : Int) := of_decide_eq_true (by first | (with_reducible assumption) | assumption)
                                                        have hx62 := bt_at a1 x12_5
                                                        replace p62 := eq_true p62
                                                        replace q62 := eq_true q62
                                                        have p160 : 0 ≤ (x12_5 : Int) := of_decide_eq_true (by first | (with_reducible assumption) | assumption)
                                                        have q160 : x12_5 < (t147.length : Int) := of_decide_eq_true (by first | (with_reducible assumption) | assumption)
                                                        obtain ⟨ad160, e160, hx160_0⟩ := Kd.at_int (Kd.R_reads' HO_5.out).2.2 x12_5 p160 q160
                                                        cases e160
                                                        replace p160 := eq_true p160
                                                        replace q160 := eq_true q160
                                                        go_wp2
                                                        repeat (go_quiet (fail); try go_wp2)
                                                        go_roundg k5
                                                        case measure => have := HK1.out; have := HJ14.out; have := HJ20.out; have := HJ56.out; have := HK5.out; omega
                                                        case rel => exact ⟨(x9_5 ++ (a1.extract (x12_5 : Int).toNat ((wrap64 (x12_5 + 1)) : Int).toNat)), (wrap64 (x12_5 + 1)), (by first | rfl | (simp; done) | (simp [*]; done)), (by first | rfl | (simp; done) | (simp [*]; done)), H', ⟨by have := HK1.out; have := HJ14.out; have := HJ20.out; have := HJ56.out; have := HK5.out; omega⟩, ⟨by (with_reducible repeat (first | apply Kd.R_alloc | apply Kd.R_drewN | apply Kd.R_drew)); exact HO_5.out⟩, ⟨by repeat (first | (with_reducible first | exact HB.out | apply below_alloc | apply pw_below_drewN | apply below_drew1) | exact HB.out)⟩⟩
                                                      · rw [if_neg c95] at H
                                                        exact absurd H (by simp)
                                                    · rw [if_neg c94] at H
                                                      exact absurd H (by simp)
                                                  · rw [if_neg c93] at H
                                                    exact absurd H (by simp)
                                            · rw [if_neg c74] at H
                                              have c74b0 : ((bt a1 x12_5) == 34) = false := beq_eq_false_iff_ne.mpr c74
                                              have c74b1 : ((bt a1 x12_5) != 34) = true := bne_iff_ne.mpr c74
                                              by_cases c96 : (bt a1 x12_5) = 32
                                              · rw [if_pos c96] at H
                                                have c96b0 : ((bt a1 x12_5) == 32) = true := beq_iff_eq.mpr c96
                                                have c96b1 : ((bt a1 x12_5) != 32) = false := bne_eq_false_iff_eq.mpr c96
                                                clear c96
                                                by_cases c97 : a0 = 5
                                                · rw [if_pos c97] at H
                                                  have c97b0 : (a0 == 5) = true := beq_iff_eq.mpr c97
                                                  have c97b1 : (a0 != 5) = false := bne_eq_false_iff_eq.mpr c97
                                                  clear c97
                                                  by_cases c98 : x9_5.size + 1 ≤ 9223372036854775807
                                                  · rw [if_pos c98] at H
                                                    have c98b0 := eq_true c98
                                                    have c98b1 : decide (x9_5.size + 1 ≤ 9223372036854775807) = true := decide_eq_true c98
                                                    try have c98b2 : (9223372036854775807 < x9_5.size + 1) = False := eq_false (Nat.not_lt.2 c98)
                                                    have c99b0 := eq_true (of_decide_eq_true (by first | (with_reducible assumption) | assumption) : 0 ≤ x12_5)
                                                    by_cases c100 : x12_5 ≤ (wrap64 (x12_5 + 1))
                                                    · rw [if_pos c100] at H
                                                      have c100b0 := eq_true c100
                                                      have c100b1 : decide (x12_5 ≤ (wrap64 (x12_5 + 1))) = true := decide_eq_true c100
                                                      by_cases c101 : (wrap64 (x12_5 + 1)) ≤ (a1.size : Int)
                                                      · rw [if_pos c101] at H
                                                        have c101b0 := eq_true c101
                                                        have c101b1 : decide ((wrap64 (x12_5 + 1)) ≤ (a1.size : Int)) = true := decide_eq_true c101
                                                        by_cases c102 : x9_5.size + 1 + (a1.extract (x12_5 : Int).toNat ((wrap64 (x12_5 + 1)) : Int).toNat).size ≤ 9223372036854775807
                                                        · rw [if_pos c102] at H
                                                          have c102b0 := eq_true c102
                                                          have c102b1 : decide (x9_5.size + 1 + (a1.extract (x12_5 : Int).toNat ((wrap64 (x12_5 + 1)) : Int).toNat).size ≤ 9223372036854775807) = true := decide_eq_true c102
                                                          try have c102b2 : (9223372036854775807 < x9_5.size + 1 + (a1.extract (x12_5 : Int).toNat ((wrap64 (x12_5 + 1)) : Int).toNat).size) = False := eq_false (Nat.not_lt.2 c102)
                                                          (try (have c102b3 := c102; clear c102 c102b0 c102b1 c102b2; simp [go_sem, *] at c102b3; have c102b4 := eq_false (Nat.not_lt.2 c102b3)))
                                                          have H' := Aside0.mk H
                                                          clear H
                                                          have p62 : 0 ≤ (x12_5 : Int) := of_decide_eq_true (by first | (with_reducible assumption) | assumption)
                                                          have q62 : x12_5 < (a1.size : Int) := of_decide_eq_true (by first | (with_reducible assumption) | assumption)
                                                          have hx62 := bt_at a1 x12_5
                                                          replace p62 := eq_true p62
                                                          replace q62 := eq_true q62
                                                          have p160 : 0 ≤ (x12_5 : Int) := of_decide_eq_true (by first | (with_reducible assumption) | assumption)
                                                          have q160 : x12_5 < (t147.length : Int) := of_decide_eq_true (by first | (with_reducible assumption) | assumption)
                                                          obtain ⟨ad160, e160, hx160_0⟩ := Kd.at_int (Kd.R_reads' HO_5.out).2.2 x12_5 p160 q160
                                                          cases e160
                                                          replace p160 := eq_true p160
                                                          replace q160 := eq_true q160
                                                          go_wp2
                                                          repeat (go_quiet (fail); try go_wp2)
                                                          go_roundg k5
                                                          case measure => have := HK1.out; have := HJ14.out; have := HJ20.out; have := HJ56.out; have := HK5.out; omega
                                                          case rel => exact ⟨((x9_5 ++ (⟨#[92]⟩ : ByteArray)) ++ (a1.extract (x12_5 : Int).toNat ((wrap64 (x12_5 + 1)) : Int).toNat)), (wrap64 (x12_5 + 1)), (by first | rfl | (simp; done) | (simp [*]; done)), (by first | rfl | (simp; done) | (simp [*]; done)), H', ⟨by have := HK1.out; have := HJ14.out; have := HJ20.out; have := HJ56.out; have := HK5.out; omega⟩, ⟨by (with_reducible repeat (first | apply Kd.R_alloc | apply Kd.R_drewN | apply Kd.R_drew)); exact HO_5.out⟩, ⟨by repeat (first | (with_reducible first | exact HB.out | apply below_alloc | apply pw_below_drewN | apply below_drew1) | exact HB.out)⟩⟩
                                                        · rw [if_neg c102] at H
                                                          exact absurd H (by simp)
                                                      · rw [if_neg c101] at H
                                                        exact absurd H (by simp)
                                                    · rw [if_neg c100] at H
                                                      exact absurd H (by simp)
                                                  · rw [if_neg c98] at H
                                                    exact absurd H (by simp)
                                                · rw [if_neg c97] at H
                                                  have c97b0 : (a0 == 5) = false := beq_eq_false_iff_ne.mpr c97
                                                  have c97b1 : (a0 != 5) = true := bne_iff_ne.mpr c97
                                                  have c103b0 := eq_true (of_decide_eq_true (by first | (with_reducible assumption) | assumption) : 0 ≤ x12_5)
                                                  by_cases c104 : x12_5 ≤ (wrap64 (x12_5 + 1))
                                                  · rw [if_pos c104] at H
                                                    have c104b0 := eq_true c104
                                                    have c104b1 : decide (x12_5 ≤ (wrap64 (x12_5 + 1))) = true := decide_eq_true c104
                                                    by_cases c105 : (wrap64 (x12_5 + 1)) ≤ (a1.size : Int)
                                                    · rw [if_pos c105] at H
                                                      have c105b0 := eq_true c105
                                                      have c105b1 : decide ((wrap64 (x12_5 + 1)) ≤ (a1.size : Int)) = true := decide_eq_true c105
                                                      by_cases c106 : x9_5.size + (a1.extract (x12_5 : Int).toNat ((wrap64 (x12_5 + 1)) : Int).toNat).size ≤ 9223372036854775807
                                                      · rw [if_pos c106] at H
                                                        have c106b0 := eq_true c106
                                                        have c106b1 : decide (x9_5.size + (a1.extract (x12_5 : Int).toNat ((wrap64 (x12_5 + 1)) : Int).toNat).size ≤ 9223372036854775807) = true := decide_eq_true c106
                                                        try have c106b2 : (9223372036854775807 < x9_5.size + (a1.extract (x12_5 : Int).toNat ((wrap64 (x12_5 + 1)) : Int).toNat).size) = False := eq_false (Nat.not_lt.2 c106)
                                                        (try (have c106b3 := c106; clear c106 c106b0 c106b1 c106b2; simp [go_sem, *] at c106b3; have c106b4 := eq_false (Nat.not_lt.2 c106b3)))
                                                        have H' := Aside0.mk H
                                                        clear H
                                                        have p62 : 0 ≤ (x12_5 : Int) := of_decide_eq_true (by first | (with_reducible assumption) | assumption)
                                                        have q62 : x12_5 < (a1.size : Int) := of_decide_eq_true (by first | (with_reducible assumption) | assumption)
                                                        have hx62 := bt_at a1 x12_5
                                                        replace p62 := eq_true p62
                                                        replace q62 := eq_true q62
                                                        have p160 : 0 ≤ (x12_5 : Int) := of_decide_eq_true (by first | (with_reducible assumption) | assumption)
                                                        have q160 : x12_5 < (t147.length : Int) := of_decide_eq_true (by first | (with_reducible assumption) | assumption)
                                                        obtain ⟨ad160, e160, hx160_0⟩ := Kd.at_int (Kd.R_reads' HO_5.out).2.2 x12_5 p160 q160
                                                        cases e160
                                                        replace p160 := eq_true p160
                                                        replace q160 := eq_true q160
                                                        go_wp2
                                                        repeat (go_quiet (fail); try go_wp2)
                                                        go_roundg k5
                                                        case measure => have := HK1.out; have := HJ14.out; have := HJ20.out; have := HJ56.out; have := HK5.out; omega
                                                        case rel => exact ⟨(x9_5 ++ (a1.extract (x12_5 : Int).toNat ((wrap64 (x12_5 + 1)) : Int).toNat)), (wrap64 (x12_5 + 1)), (by first | rfl | (simp; done) | (simp [*]; done)), (by first | rfl | (simp; done) | (simp [*]; done)), H', ⟨by have := HK1.out; have := HJ14.out; have := HJ20.out; have := HJ56.out; have := HK5.out; omega⟩, ⟨by (with_reducible repeat (first | apply Kd.R_alloc | apply Kd.R_drewN | apply Kd.R_drew)); exact HO_5.out⟩, ⟨by repeat (first | (with_reducible first | exact HB.out | apply below_alloc | apply pw_below_drewN | apply below_drew1) | exact HB.out)⟩⟩
                                                      · rw [if_neg c106] at H
                                                        exact absurd H (by simp)
                                                    · rw [if_neg c105] at H
                                                      exact absurd H (by simp)
                                                  · rw [if_neg c104] at H
                                                    exact absurd H (by simp)
                                              · rw [if_neg c96] at H
                                                have c96b0 : ((bt a1 x12_5) == 32) = false := beq_eq_false_iff_ne.mpr c96
                                                have c96b1 : ((bt a1 x12_5) != 32) = true := bne_iff_ne.mpr c96
                                                have c107b0 := eq_true (of_decide_eq_true (by first | (with_reducible assumption) | assumption) : 0 ≤ x12_5)
                                                by_cases c108 : x12_5 ≤ (wrap64 (x12_5 + 1))
                                                · rw [if_pos c108] at H
                                                  have c108b0 := eq_true c108
                                                  have c108b1 : decide (x12_5 ≤ (wrap64 (x12_5 + 1))) = true := decide_eq_true c108
                                                  by_cases c109 : (wrap64 (x12_5 + 1)) ≤ (a1.size : Int)
                                                  · rw [if_pos c109] at H
                                                    have c109b0 := eq_true c109
                                                    have c109b1 : decide ((wrap64 (x12_5 + 1)) ≤ (a1.size : Int)) = true := decide_eq_true c109
                                                    by_cases c110 : x9_5.size + (a1.extract (x12_5 : Int).toNat ((wrap64 (x12_5 + 1)) : Int).toNat).size ≤ 9223372036854775807
                                                    · rw [if_pos c110] at H
                                                      have c110b0 := eq_true c110
                                                      have c110b1 : decide (x9_5.size + (a1.extract (x12_5 : Int).toNat ((wrap64 (x12_5 + 1)) : Int).toNat).size ≤ 9223372036854775807) = true := decide_eq_true c110
                                                      try have c110b2 : (9223372036854775807 < x9_5.size + (a1.extract (x12_5 : Int).toNat ((wrap64 (x12_5 + 1)) : Int).toNat).size) = False := eq_false (Nat.not_lt.2 c110)
                                                      (try (have c110b3 := c110; clear c110 c110b0 c110b1 c110b2; simp [go_sem, *] at c110b3; have c110b4 := eq_false (Nat.not_lt.2 c110b3)))
                                                      have H' := Aside0.mk H
                                                      clear H
                                                      have p62 : 0 ≤ (x12_5 : Int) := of_decide_eq_true (by first | (with_reducible assumption) | assumption)
                                                      have q62 : x12_5 < (a1.size : Int) := of_decide_eq_true (by first | (with_reducible assumption) | assumption)
                                                      have hx62 := bt_at a1 x12_5
                                                      replace p62 := eq_true p62
                                                      replace q62 := eq_true q62
                                                      have p160 : 0 ≤ (x12_5 : Int) := of_decide_eq_true (by first | (with_reducible assumption) | assumption)
                                                      have q160 : x12_5 < (t147.length : Int) := of_decide_eq_true (by first | (with_reducible assumption) | assumption)
                                                      obtain ⟨ad160, e160, hx160_0⟩ := Kd.at_int (Kd.R_reads' HO_5.out).2.2 x12_5 p160 q160
                                                      cases e160
                                                      replace p160 := eq_true p160
                                                      replace q160 := eq_true q160
                                                      go_wp2
                                                      repeat (go_quiet (fail); try go_wp2)
                                                      go_roundg k5
                                                      case measure => have := HK1.out; have := HJ14.out; have := HJ20.out; have := HJ56.out; have := HK5.out; omega
                                                      case rel => exact ⟨(x9_5 ++ (a1.extract (x12_5 : Int).toNat ((wrap64 (x12_5 + 1)) : Int).toNat)), (wrap64 (x12_5 + 1)), (by first | rfl | (simp; done) | (simp [*]; done)), (by first | rfl | (simp; done) | (simp [*]; done)), H', ⟨by have := HK1.out; have := HJ14.out; have := HJ20.out; have := HJ56.out; have := HK5.out; omega⟩, ⟨by (with_reducible repeat (first | apply Kd.R_alloc | apply Kd.R_drewN | apply Kd.R_drew)); exact HO_5.out⟩, ⟨by repeat (first | (with_reducible first | exact HB.out | apply below_alloc | apply pw_below_drewN | apply below_drew1) | exact HB.out)⟩⟩
                                                    · rw [if_neg c110] at H
                                                      exact absurd H (by simp)
                                                  · rw [if_neg c109] at H
                                                    exact absurd H (by simp)
                                                · rw [if_neg c108] at H
                                                  exact absurd H (by simp)
                                      · rw [if_neg c63] at H
                                        exact absurd H (by simp)
                                    · rw [if_neg c61] at H
                                      exact absurd H (by simp)
                                  · rw [if_neg c60] at H
                                    have c60b0 : decide (x12_5 < (a1.size : Int)) = false := decide_eq_false c60
                                    clear c60
                                    by_cases c111 : a0 = 4
                                    · rw [if_pos c111] at H
                                      have c111b0 : (a0 == 4) = true := beq_iff_eq.mpr c111
                                      have c111b1 : (a0 != 4) = false := bne_eq_false_iff_eq.mpr c111
                                      clear c111
                                      by_cases c112 : 1 + x9_5.size ≤ 9223372036854775807
                                      · rw [if_pos c112] at H
                                        have c112b0 := eq_true c112
                                        have c112b1 : decide (1 + x9_5.size ≤ 9223372036854775807) = true := decide_eq_true c112
                                        try have c112b2 : (9223372036854775807 < 1 + x9_5.size) = False := eq_false (Nat.not_lt.2 c112)
                                        by_cases c113 : 1 + x9_5.size + 1 ≤ 9223372036854775807
                                        · rw [if_pos c113] at H
                                          have c113b0 := eq_true c113
                                          have c113b1 : decide (1 + x9_5.size + 1 ≤ 9223372036854775807) = true := decide_eq_true c113
                                          try have c113b2 : (9223372036854775807 < 1 + x9_5.size + 1) = False := eq_false (Nat.not_lt.2 c113)
                                          obtain rfl := Option.some.inj H
                                          go_wp2
                                          repeat (go_quiet (fail); try go_wp2)
                                          go_ret
                                          exact ⟨by first | rfl | (simp [errW_none, errW_some] <;> rfl) | (simp [*, errW_none, errW_some] <;> rfl), by repeat (first | (with_reducible first | exact HB.out | apply below_alloc | apply pw_below_drewN | apply below_drew1) | exact HB.out)⟩
                                        · rw [if_neg c113] at H
                                          exact absurd H (by simp)
                                      · rw [if_neg c112] at H
                                        exact absurd H (by simp)
                                    · rw [if_neg c111] at H
                                      have c111b0 : (a0 == 4) = false := beq_eq_false_iff_ne.mpr c111
                                      have c111b1 : (a0 != 4) = true := bne_iff_ne.mpr c111
                                      obtain rfl := Option.some.inj H
                                      go_wp2
                                      repeat (go_quiet (fail); try go_wp2)
                                      go_ret
                                      exact ⟨by first | rfl | (simp [errW_none, errW_some] <;> rfl) | (simp [*, errW_none, errW_some] <;> rfl), by repeat (first | (with_reducible first | exact HB.out | apply below_alloc | apply pw_below_drewN | apply below_drew1) | exact HB.out)⟩
end Go.Proofs.YtkhbgfnbkdonlaaDoor.QQuo
