-- Made by a program of this session.
import Derived.Test.YtljlhknpfnphnaaQC
namespace Go.Proofs.Ytljlhknpfnphnaa.QOpts
open Go.RowKit Go.Proofs.YtljlhknpfnphnaaW.PrintWords Go.Proofs.YtljlhknpfnphnaaW.PrintLast Go.Proofs.YtljlhknpfnphnaaW.PrintMore
attribute [local go_sem] max2_int min2_int max_two min_two max_three min_three max_four min_four   -- for this text's walks alone
set_option linter.unusedVariables false
set_option linter.unusedSimpArgs false

/-! ### domesdayref13_Read: function 11 -/
mutual
def domesdayref13_Read.l0 : Nat → List (S42) → List ByteArray → List (S36) → List ByteArray → Int → Option ((List (S36)) × List ByteArray × ByteArray × Bool)
  | 0, _, _, _, _, _ => none
  | k + 1, x0, x1, x8, x9, x10 => if x10 < (x1.length : Int) then (if 0 ≤ x10 then (if (rdOf ByteArray.empty x1 x10).toList = ([45, 45] : List UInt8) then (if 0 ≤ (wrap64 (x10 + 1)) then (if (wrap64 (x10 + 1)) ≤ (x1.length : Int) then (if x9.length + (x1.drop ((wrap64 (x10 + 1)) : Int).toNat).length < 8796093022208 then (some (x8, (x9 ++ (x1.drop ((wrap64 (x10 + 1)) : Int).toNat)), (⟨#[]⟩ : ByteArray), true)) else (none)) else (none)) else (none)) else (if ((rdOf ByteArray.empty x1 x10).size : Int) < 2 then (domesdayref13_Read.j1 k x0 x1 x8 x9 x10 (rdOf ByteArray.empty x1 x10) true) else (if 0 < ((rdOf ByteArray.empty x1 x10).size : Int) then (domesdayref13_Read.j1 k x0 x1 x8 x9 x10 (rdOf ByteArray.empty x1 x10) ((bt (rdOf ByteArray.empty x1 x10) 0) != 45)) else (none)))) else (none)) else (some (x8, x9, (⟨#[]⟩ : ByteArray), true))
def domesdayref13_Read.j1 : Nat → List (S42) → List ByteArray → List (S36) → List ByteArray → Int → ByteArray → Bool → Option ((List (S36)) × List ByteArray × ByteArray × Bool)
  | 0, _, _, _, _, _, _, _ => none
  | k + 1, x0, x1, x8, x9, x10, x11, x44 => if x44 = true then (if x9.length < 8796093022208 then (domesdayref13_Read.l0 k x0 x1 x8 (x9 ++ [x11]) (wrap64 (x10 + 1))) else (none)) else ((domesdayref13_begins.f x11 (⟨#[45, 45]⟩ : ByteArray)).bind fun t132 => (if t132 = true then (domesdayref13_Read.l1 k x0 x1 x8 x9 x10 x11 2) else (domesdayref13_Read.l2 k x0 x1 x8 x9 x10 x11 1)))
def domesdayref13_Read.j3 : Nat → List (S42) → List ByteArray → List (S36) → List ByteArray → Int → ByteArray → Int → Option ((List (S36)) × List ByteArray × ByteArray × Bool)
  | 0, _, _, _, _, _, _, _ => none
  | k + 1, x0, x1, x8, x9, x10, x11, x12 => if 2 ≤ x12 then (if x12 ≤ (x11.size : Int) then ((domesdayref13_Meant.f k x0 (x11.extract 2 (x12 : Int).toNat)).bind fun t133 => (if t133 < 0 then (domesdayref13_Read.j4 k x0 x1 x8 x9 x10 x11 x12 t133 true) else (if x12 < (x11.size : Int) then (if 0 ≤ t133 then (if t133 < (x0.length : Int) then (if ((rd_T42 x0 t133).f2 = true) then (if x12 = (x11.size : Int) then (if (rd_T42 x0 t133).f2 = true then (domesdayref13_Read.j4 k x0 x1 x8 x9 x10 x11 x12 t133 ((wrap64 (x10 + 1)) == (x1.length : Int))) else (domesdayref13_Read.j4 k x0 x1 x8 x9 x10 x11 x12 t133 false)) else (domesdayref13_Read.j4 k x0 x1 x8 x9 x10 x11 x12 t133 false)) else (domesdayref13_Read.j4 k x0 x1 x8 x9 x10 x11 x12 t133 true)) else (none)) else (none)) else (if x12 = (x11.size : Int) then (if 0 ≤ t133 then (if t133 < (x0.length : Int) then (if (rd_T42 x0 t133).f2 = true then (domesdayref13_Read.j4 k x0 x1 x8 x9 x10 x11 x12 t133 ((wrap64 (x10 + 1)) == (x1.length : Int))) else (domesdayref13_Read.j4 k x0 x1 x8 x9 x10 x11 x12 t133 false)) else (none)) else (none)) else (domesdayref13_Read.j4 k x0 x1 x8 x9 x10 x11 x12 t133 false))))) else (none)) else (none)
def domesdayref13_Read.j4 : Nat → List (S42) → List ByteArray → List (S36) → List ByteArray → Int → ByteArray → Int → Int → Bool → Option ((List (S36)) × List ByteArray × ByteArray × Bool)
  | 0, _, _, _, _, _, _, _, _, _ => none
  | k + 1, x0, x1, x8, x9, x10, x11, x12, x13, x103 => if x103 = true then (some (([] : List (S36)), ([] : List ByteArray), x11, false)) else (if 0 ≤ x13 then (if x13 < (x0.length : Int) then (if x12 < (x11.size : Int) then (if 0 ≤ (wrap64 (x12 + 1)) then (if (wrap64 (x12 + 1)) ≤ (x11.size : Int) then (if x8.length < 5864062014805 then (domesdayref13_Read.l0 k x0 x1 (x8 ++ [(⟨(rd_T42 x0 x13).f0, x11.extract ((wrap64 (x12 + 1)) : Int).toNat x11.size⟩ : S36)]) x9 (wrap64 (x10 + 1))) else (none)) else (none)) else (none)) else (if (rd_T42 x0 x13).f2 = true then (if 0 ≤ (wrap64 (x10 + 1)) then (if (wrap64 (x10 + 1)) < (x1.length : Int) then (if x8.length < 5864062014805 then (domesdayref13_Read.l0 k x0 x1 (x8 ++ [(⟨(rd_T42 x0 x13).f0, rdOf ByteArray.empty x1 (wrap64 (x10 + 1))⟩ : S36)]) x9 (wrap64 ((wrap64 (x10 + 1)) + 1))) else (none)) else (none)) else (none)) else (if x8.length < 5864062014805 then (domesdayref13_Read.l0 k x0 x1 (x8 ++ [(⟨(rd_T42 x0 x13).f0, (⟨#[]⟩ : ByteArray)⟩ : S36)]) x9 (wrap64 (x10 + 1))) else (none)))) else (none)) else (none))
def domesdayref13_Read.l1 : Nat → List (S42) → List ByteArray → List (S36) → List ByteArray → Int → ByteArray → Int → Option ((List (S36)) × List ByteArray × ByteArray × Bool)
  | 0, _, _, _, _, _, _, _ => none
  | k + 1, x0, x1, x8, x9, x10, x11, x12 => if x12 < (x11.size : Int) then (if 0 ≤ x12 then (if (bt x11 x12) = 61 then (domesdayref13_Read.j3 k x0 x1 x8 x9 x10 x11 x12) else (domesdayref13_Read.l1 k x0 x1 x8 x9 x10 x11 (wrap64 (x12 + 1)))) else (none)) else (domesdayref13_Read.j3 k x0 x1 x8 x9 x10 x11 x12)
def domesdayref13_Read.l2 : Nat → List (S42) → List ByteArray → List (S36) → List ByteArray → Int → ByteArray → Int → Option ((List (S36)) × List ByteArray × ByteArray × Bool)
  | 0, _, _, _, _, _, _, _ => none
  | k + 1, x0, x1, x8, x9, x10, x11, x15 => if x15 < (x11.size : Int) then (if 0 ≤ x15 then ((domesdayref13_Letter.f k x0 (bt x11 x15)).bind fun t150 => (if t150 < 0 then (domesdayref13_Read.j6 k x0 x1 x8 x9 x10 x11 x15 t150 true) else (if 0 ≤ t150 then (if t150 < (x0.length : Int) then (if (rd_T42 x0 t150).f2 = true then (if (wrap64 (x15 + 1)) = (x11.size : Int) then (domesdayref13_Read.j6 k x0 x1 x8 x9 x10 x11 x15 t150 ((wrap64 (x10 + 1)) == (x1.length : Int))) else (domesdayref13_Read.j6 k x0 x1 x8 x9 x10 x11 x15 t150 false)) else (domesdayref13_Read.j6 k x0 x1 x8 x9 x10 x11 x15 t150 false)) else (none)) else (none)))) else (none)) else (domesdayref13_Read.l0 k x0 x1 x8 x9 (wrap64 (x10 + 1)))
def domesdayref13_Read.j6 : Nat → List (S42) → List ByteArray → List (S36) → List ByteArray → Int → ByteArray → Int → Int → Bool → Option ((List (S36)) × List ByteArray × ByteArray × Bool)
  | 0, _, _, _, _, _, _, _, _, _ => none
  | k + 1, x0, x1, x8, x9, x10, x11, x15, x16, x169 => if x169 = true then (some (([] : List (S36)), ([] : List ByteArray), x11, false)) else (if 0 ≤ x15 then (if x15 < (x11.size : Int) then (if 0 ≤ x16 then (if x16 < (x0.length : Int) then (if (rd_T42 x0 x16).f2 = true then (domesdayref13_Read.j7 k x0 x1 x8 x9 x10 x11 x15 x16 (decide ((wrap64 (x15 + 1)) < (x11.size : Int))) (bt x11 x15) (⟨#[]⟩ : ByteArray)) else (domesdayref13_Read.j7 k x0 x1 x8 x9 x10 x11 x15 x16 false (bt x11 x15) (⟨#[]⟩ : ByteArray))) else (none)) else (none)) else (none)) else (none))
def domesdayref13_Read.j7 : Nat → List (S42) → List ByteArray → List (S36) → List ByteArray → Int → ByteArray → Int → Int → Bool → Int → ByteArray → Option ((List (S36)) × List ByteArray × ByteArray × Bool)
  | 0, _, _, _, _, _, _, _, _, _, _, _ => none
  | k + 1, x0, x1, x8, x9, x10, x11, x15, x16, x186, x153000, x153001 => if x186 = true then (if 0 ≤ (wrap64 (x15 + 1)) then (if (wrap64 (x15 + 1)) ≤ (x11.size : Int) then (if x8.length < 5864062014805 then (domesdayref13_Read.l2 k x0 x1 (x8 ++ [(⟨x153000, x11.extract ((wrap64 (x15 + 1)) : Int).toNat x11.size⟩ : S36)]) x9 x10 x11 (wrap64 ((x11.size : Int) + 1))) else (none)) else (none)) else (none)) else (if 0 ≤ x16 then (if x16 < (x0.length : Int) then (if (rd_T42 x0 x16).f2 = true then (if 0 ≤ (wrap64 (x10 + 1)) then (if (wrap64 (x10 + 1)) < (x1.length : Int) then (if x8.length < 5864062014805 then (domesdayref13_Read.l2 k x0 x1 (x8 ++ [(⟨x153000, rdOf ByteArray.empty x1 (wrap64 (x10 + 1))⟩ : S36)]) x9 (wrap64 (x10 + 1)) x11 (wrap64 (x15 + 1))) else (none)) else (none)) else (none)) else (if x8.length < 5864062014805 then (domesdayref13_Read.l2 k x0 x1 (x8 ++ [(⟨x153000, x153001⟩ : S36)]) x9 x10 x11 (wrap64 (x15 + 1))) else (none))) else (none)) else (none))
end
def domesdayref13_Read.f (k : Nat) (l0 : List (S42)) (l1 : List ByteArray) : Option ((List (S36)) × List ByteArray × ByteArray × Bool) := domesdayref13_Read.l0 k l0 l1 ([] : List (S36)) ([] : List ByteArray) 0
theorem domesdayref13_Read.mono_l : ∀ k, (∀ y0 y1 y2 y3 y4, LeO (domesdayref13_Read.l0 k y0 y1 y2 y3 y4) (domesdayref13_Read.l0 (k + 1) y0 y1 y2 y3 y4)) ∧ (∀ y0 y1 y2 y3 y4 y5 y6, LeO (domesdayref13_Read.j1 k y0 y1 y2 y3 y4 y5 y6) (domesdayref13_Read.j1 (k + 1) y0 y1 y2 y3 y4 y5 y6)) ∧ (∀ y0 y1 y2 y3 y4 y5 y6, LeO (domesdayref13_Read.j3 k y0 y1 y2 y3 y4 y5 y6) (domesdayref13_Read.j3 (k + 1) y0 y1 y2 y3 y4 y5 y6)) ∧ (∀ y0 y1 y2 y3 y4 y5 y6 y7 y8, LeO (domesdayref13_Read.j4 k y0 y1 y2 y3 y4 y5 y6 y7 y8) (domesdayref13_Read.j4 (k + 1) y0 y1 y2 y3 y4 y5 y6 y7 y8)) ∧ (∀ y0 y1 y2 y3 y4 y5 y6, LeO (domesdayref13_Read.l1 k y0 y1 y2 y3 y4 y5 y6) (domesdayref13_Read.l1 (k + 1) y0 y1 y2 y3 y4 y5 y6)) ∧ (∀ y0 y1 y2 y3 y4 y5 y6, LeO (domesdayref13_Read.l2 k y0 y1 y2 y3 y4 y5 y6) (domesdayref13_Read.l2 (k + 1) y0 y1 y2 y3 y4 y5 y6)) ∧ (∀ y0 y1 y2 y3 y4 y5 y6 y7 y8, LeO (domesdayref13_Read.j6 k y0 y1 y2 y3 y4 y5 y6 y7 y8) (domesdayref13_Read.j6 (k + 1) y0 y1 y2 y3 y4 y5 y6 y7 y8)) ∧ (∀ y0 y1 y2 y3 y4 y5 y6 y7 y8 y9 y10, LeO (domesdayref13_Read.j7 k y0 y1 y2 y3 y4 y5 y6 y7 y8 y9 y10) (domesdayref13_Read.j7 (k + 1) y0 y1 y2 y3 y4 y5 y6 y7 y8 y9 y10))
  | 0 => ⟨fun _ _ _ _ _ r h => by simp [domesdayref13_Read.l0] at h, fun _ _ _ _ _ _ _ r h => by simp [domesdayref13_Read.j1] at h, fun _ _ _ _ _ _ _ r h => by simp [domesdayref13_Read.j3] at h, fun _ _ _ _ _ _ _ _ _ r h => by simp [domesdayref13_Read.j4] at h, fun _ _ _ _ _ _ _ r h => by simp [domesdayref13_Read.l1] at h, fun _ _ _ _ _ _ _ r h => by simp [domesdayref13_Read.l2] at h, fun _ _ _ _ _ _ _ _ _ r h => by simp [domesdayref13_Read.j6] at h, fun _ _ _ _ _ _ _ _ _ _ _ r h => by simp [domesdayref13_Read.j7] at h⟩
  | k + 1 => by
    obtain ⟨ih0, ih1, ih2, ih3, ih4, ih5, ih6, ih7⟩ := domesdayref13_Read.mono_l k
    refine ⟨?_, ?_, ?_, ?_, ?_, ?_, ?_, ?_⟩
    · intro y0 y1 y2 y3 y4
      unfold domesdayref13_Read.l0
      repeat' first
      | (with_reducible exact ih0 _ _ _ _ _)
      | (with_reducible exact ih1 _ _ _ _ _ _ _)
      | (with_reducible exact ih2 _ _ _ _ _ _ _)
      | (with_reducible exact ih3 _ _ _ _ _ _ _ _ _)
      | (with_reducible exact ih4 _ _ _ _ _ _ _)
      | (with_reducible exact ih5 _ _ _ _ _ _ _)
      | (with_reducible exact ih6 _ _ _ _ _ _ _ _ _)
      | (with_reducible exact ih7 _ _ _ _ _ _ _ _ _ _ _)
      | (with_reducible exact domesdayref13_Letter.mono _ _ _)
      | (with_reducible exact domesdayref13_Meant.mono _ _ _)
      | (with_reducible exact LeO.refl _)
      | (with_reducible exact LeO.none _)
      | (with_reducible refine LeO.ite ?_ ?_)
      | (with_reducible refine LeO.bind ?_ (fun _ => ?_))
      | exact ih0 _ _ _ _ _
      | exact ih1 _ _ _ _ _ _ _
      | exact ih2 _ _ _ _ _ _ _
      | exact ih3 _ _ _ _ _ _ _ _ _
      | exact ih4 _ _ _ _ _ _ _
      | exact ih5 _ _ _ _ _ _ _
      | exact ih6 _ _ _ _ _ _ _ _ _
      | exact ih7 _ _ _ _ _ _ _ _ _ _ _
      | exact domesdayref13_Letter.mono _ _ _
      | exact domesdayref13_Meant.mono _ _ _
      | exact LeO.none _
      | refine LeO.ite ?_ ?_
      | refine LeO.bind ?_ (fun _ => ?_)
    · intro y0 y1 y2 y3 y4 y5 y6
      unfold domesdayref13_Read.j1
      repeat' first
      | (with_reducible exact ih0 _ _ _ _ _)
      | (with_reducible exact ih1 _ _ _ _ _ _ _)
      | (with_reducible exact ih2 _ _ _ _ _ _ _)
      | (with_reducible exact ih3 _ _ _ _ _ _ _ _ _)
      | (with_reducible exact ih4 _ _ _ _ _ _ _)
      | (with_reducible exact ih5 _ _ _ _ _ _ _)
      | (with_reducible exact ih6 _ _ _ _ _ _ _ _ _)
      | (with_reducible exact ih7 _ _ _ _ _ _ _ _ _ _ _)
      | (with_reducible exact domesdayref13_Letter.mono _ _ _)
      | (with_reducible exact domesdayref13_Meant.mono _ _ _)
      | (with_reducible exact LeO.refl _)
      | (with_reducible exact LeO.none _)
      | (with_reducible refine LeO.ite ?_ ?_)
      | (with_reducible refine LeO.bind ?_ (fun _ => ?_))
      | exact ih0 _ _ _ _ _
      | exact ih1 _ _ _ _ _ _ _
      | exact ih2 _ _ _ _ _ _ _
      | exact ih3 _ _ _ _ _ _ _ _ _
      | exact ih4 _ _ _ _ _ _ _
      | exact ih5 _ _ _ _ _ _ _
      | exact ih6 _ _ _ _ _ _ _ _ _
      | exact ih7 _ _ _ _ _ _ _ _ _ _ _
      | exact domesdayref13_Letter.mono _ _ _
      | exact domesdayref13_Meant.mono _ _ _
      | exact LeO.none _
      | refine LeO.ite ?_ ?_
      | refine LeO.bind ?_ (fun _ => ?_)
    · intro y0 y1 y2 y3 y4 y5 y6
      unfold domesdayref13_Read.j3
      repeat' first
      | (with_reducible exact ih0 _ _ _ _ _)
      | (with_reducible exact ih1 _ _ _ _ _ _ _)
      | (with_reducible exact ih2 _ _ _ _ _ _ _)
      | (with_reducible exact ih3 _ _ _ _ _ _ _ _ _)
      | (with_reducible exact ih4 _ _ _ _ _ _ _)
      | (with_reducible exact ih5 _ _ _ _ _ _ _)
      | (with_reducible exact ih6 _ _ _ _ _ _ _ _ _)
      | (with_reducible exact ih7 _ _ _ _ _ _ _ _ _ _ _)
      | (with_reducible exact domesdayref13_Letter.mono _ _ _)
      | (with_reducible exact domesdayref13_Meant.mono _ _ _)
      | (with_reducible exact LeO.refl _)
      | (with_reducible exact LeO.none _)
      | (with_reducible refine LeO.ite ?_ ?_)
      | (with_reducible refine LeO.bind ?_ (fun _ => ?_))
      | exact ih0 _ _ _ _ _
      | exact ih1 _ _ _ _ _ _ _
      | exact ih2 _ _ _ _ _ _ _
      | exact ih3 _ _ _ _ _ _ _ _ _
      | exact ih4 _ _ _ _ _ _ _
      | exact ih5 _ _ _ _ _ _ _
      | exact ih6 _ _ _ _ _ _ _ _ _
      | exact ih7 _ _ _ _ _ _ _ _ _ _ _
      | exact domesdayref13_Letter.mono _ _ _
      | exact domesdayref13_Meant.mono _ _ _
      | exact LeO.none _
      | refine LeO.ite ?_ ?_
      | refine LeO.bind ?_ (fun _ => ?_)
    · intro y0 y1 y2 y3 y4 y5 y6 y7 y8
      unfold domesdayref13_Read.j4
      repeat' first
      | (with_reducible exact ih0 _ _ _ _ _)
      | (with_reducible exact ih1 _ _ _ _ _ _ _)
      | (with_reducible exact ih2 _ _ _ _ _ _ _)
      | (with_reducible exact ih3 _ _ _ _ _ _ _ _ _)
      | (with_reducible exact ih4 _ _ _ _ _ _ _)
      | (with_reducible exact ih5 _ _ _ _ _ _ _)
      | (with_reducible exact ih6 _ _ _ _ _ _ _ _ _)
      | (with_reducible exact ih7 _ _ _ _ _ _ _ _ _ _ _)
      | (with_reducible exact domesdayref13_Letter.mono _ _ _)
      | (with_reducible exact domesdayref13_Meant.mono _ _ _)
      | (with_reducible exact LeO.refl _)
      | (with_reducible exact LeO.none _)
      | (with_reducible refine LeO.ite ?_ ?_)
      | (with_reducible refine LeO.bind ?_ (fun _ => ?_))
      | exact ih0 _ _ _ _ _
      | exact ih1 _ _ _ _ _ _ _
      | exact ih2 _ _ _ _ _ _ _
      | exact ih3 _ _ _ _ _ _ _ _ _
      | exact ih4 _ _ _ _ _ _ _
      | exact ih5 _ _ _ _ _ _ _
      | exact ih6 _ _ _ _ _ _ _ _ _
      | exact ih7 _ _ _ _ _ _ _ _ _ _ _
      | exact domesdayref13_Letter.mono _ _ _
      | exact domesdayref13_Meant.mono _ _ _
      | exact LeO.none _
      | refine LeO.ite ?_ ?_
      | refine LeO.bind ?_ (fun _ => ?_)
    · intro y0 y1 y2 y3 y4 y5 y6
      unfold domesdayref13_Read.l1
      repeat' first
      | (with_reducible exact ih0 _ _ _ _ _)
      | (with_reducible exact ih1 _ _ _ _ _ _ _)
      | (with_reducible exact ih2 _ _ _ _ _ _ _)
      | (with_reducible exact ih3 _ _ _ _ _ _ _ _ _)
      | (with_reducible exact ih4 _ _ _ _ _ _ _)
      | (with_reducible exact ih5 _ _ _ _ _ _ _)
      | (with_reducible exact ih6 _ _ _ _ _ _ _ _ _)
      | (with_reducible exact ih7 _ _ _ _ _ _ _ _ _ _ _)
      | (with_reducible exact domesdayref13_Letter.mono _ _ _)
      | (with_reducible exact domesdayref13_Meant.mono _ _ _)
      | (with_reducible exact LeO.refl _)
      | (with_reducible exact LeO.none _)
      | (with_reducible refine LeO.ite ?_ ?_)
      | (with_reducible refine LeO.bind ?_ (fun _ => ?_))
      | exact ih0 _ _ _ _ _
      | exact ih1 _ _ _ _ _ _ _
      | exact ih2 _ _ _ _ _ _ _
      | exact ih3 _ _ _ _ _ _ _ _ _
      | exact ih4 _ _ _ _ _ _ _
      | exact ih5 _ _ _ _ _ _ _
      | exact ih6 _ _ _ _ _ _ _ _ _
      | exact ih7 _ _ _ _ _ _ _ _ _ _ _
      | exact domesdayref13_Letter.mono _ _ _
      | exact domesdayref13_Meant.mono _ _ _
      | exact LeO.none _
      | refine LeO.ite ?_ ?_
      | refine LeO.bind ?_ (fun _ => ?_)
    · intro y0 y1 y2 y3 y4 y5 y6
      unfold domesdayref13_Read.l2
      repeat' first
      | (with_reducible exact ih0 _ _ _ _ _)
      | (with_reducible exact ih1 _ _ _ _ _ _ _)
      | (with_reducible exact ih2 _ _ _ _ _ _ _)
      | (with_reducible exact ih3 _ _ _ _ _ _ _ _ _)
      | (with_reducible exact ih4 _ _ _ _ _ _ _)
      | (with_reducible exact ih5 _ _ _ _ _ _ _)
      | (with_reducible exact ih6 _ _ _ _ _ _ _ _ _)
      | (with_reducible exact ih7 _ _ _ _ _ _ _ _ _ _ _)
      | (with_reducible exact domesdayref13_Letter.mono _ _ _)
      | (with_reducible exact domesdayref13_Meant.mono _ _ _)
      | (with_reducible exact LeO.refl _)
      | (with_reducible exact LeO.none _)
      | (with_reducible refine LeO.ite ?_ ?_)
      | (with_reducible refine LeO.bind ?_ (fun _ => ?_))
      | exact ih0 _ _ _ _ _
      | exact ih1 _ _ _ _ _ _ _
      | exact ih2 _ _ _ _ _ _ _
      | exact ih3 _ _ _ _ _ _ _ _ _
      | exact ih4 _ _ _ _ _ _ _
      | exact ih5 _ _ _ _ _ _ _
      | exact ih6 _ _ _ _ _ _ _ _ _
      | exact ih7 _ _ _ _ _ _ _ _ _ _ _
      | exact domesdayref13_Letter.mono _ _ _
      | exact domesdayref13_Meant.mono _ _ _
      | exact LeO.none _
      | refine LeO.ite ?_ ?_
      | refine LeO.bind ?_ (fun _ => ?_)
    · intro y0 y1 y2 y3 y4 y5 y6 y7 y8
      unfold domesdayref13_Read.j6
      repeat' first
      | (with_reducible exact ih0 _ _ _ _ _)
      | (with_reducible exact ih1 _ _ _ _ _ _ _)
      | (with_reducible exact ih2 _ _ _ _ _ _ _)
      | (with_reducible exact ih3 _ _ _ _ _ _ _ _ _)
      | (with_reducible exact ih4 _ _ _ _ _ _ _)
      | (with_reducible exact ih5 _ _ _ _ _ _ _)
      | (with_reducible exact ih6 _ _ _ _ _ _ _ _ _)
      | (with_reducible exact ih7 _ _ _ _ _ _ _ _ _ _ _)
      | (with_reducible exact domesdayref13_Letter.mono _ _ _)
      | (with_reducible exact domesdayref13_Meant.mono _ _ _)
      | (with_reducible exact LeO.refl _)
      | (with_reducible exact LeO.none _)
      | (with_reducible refine LeO.ite ?_ ?_)
      | (with_reducible refine LeO.bind ?_ (fun _ => ?_))
      | exact ih0 _ _ _ _ _
      | exact ih1 _ _ _ _ _ _ _
      | exact ih2 _ _ _ _ _ _ _
      | exact ih3 _ _ _ _ _ _ _ _ _
      | exact ih4 _ _ _ _ _ _ _
      | exact ih5 _ _ _ _ _ _ _
      | exact ih6 _ _ _ _ _ _ _ _ _
      | exact ih7 _ _ _ _ _ _ _ _ _ _ _
      | exact domesdayref13_Letter.mono _ _ _
      | exact domesdayref13_Meant.mono _ _ _
      | exact LeO.none _
      | refine LeO.ite ?_ ?_
      | refine LeO.bind ?_ (fun _ => ?_)
    · intro y0 y1 y2 y3 y4 y5 y6 y7 y8 y9 y10
      unfold domesdayref13_Read.j7
      repeat' first
      | (with_reducible exact ih0 _ _ _ _ _)
      | (with_reducible exact ih1 _ _ _ _ _ _ _)
      | (with_reducible exact ih2 _ _ _ _ _ _ _)
      | (with_reducible exact ih3 _ _ _ _ _ _ _ _ _)
      | (with_reducible exact ih4 _ _ _ _ _ _ _)
      | (with_reducible exact ih5 _ _ _ _ _ _ _)
      | (with_reducible exact ih6 _ _ _ _ _ _ _ _ _)
      | (with_reducible exact ih7 _ _ _ _ _ _ _ _ _ _ _)
      | (with_reducible exact domesdayref13_Letter.mono _ _ _)
      | (with_reducible exact domesdayref13_Meant.mono _ _ _)
      | (with_reducible exact LeO.refl _)
      | (with_reducible exact LeO.none _)
      | (with_reducible refine LeO.ite ?_ ?_)
      | (with_reducible refine LeO.bind ?_ (fun _ => ?_))
      | exact ih0 _ _ _ _ _
      | exact ih1 _ _ _ _ _ _ _
      | exact ih2 _ _ _ _ _ _ _
      | exact ih3 _ _ _ _ _ _ _ _ _
      | exact ih4 _ _ _ _ _ _ _
      | exact ih5 _ _ _ _ _ _ _
      | exact ih6 _ _ _ _ _ _ _ _ _
      | exact ih7 _ _ _ _ _ _ _ _ _ _ _
      | exact domesdayref13_Letter.mono _ _ _
      | exact domesdayref13_Meant.mono _ _ _
      | exact LeO.none _
      | refine LeO.ite ?_ ?_
      | refine LeO.bind ?_ (fun _ => ?_)
theorem domesdayref13_Read.mono : ∀ a0 a1 k, LeO (domesdayref13_Read.f k a0 a1) (domesdayref13_Read.f (k + 1) a0 a1) := by
  intro a0 a1 k
  obtain ⟨ih0, ih1, ih2, ih3, ih4, ih5, ih6, ih7⟩ := domesdayref13_Read.mono_l k
  unfold domesdayref13_Read.f
  repeat' first
      | (with_reducible exact ih0 _ _ _ _ _)
      | (with_reducible exact ih1 _ _ _ _ _ _ _)
      | (with_reducible exact ih2 _ _ _ _ _ _ _)
      | (with_reducible exact ih3 _ _ _ _ _ _ _ _ _)
      | (with_reducible exact ih4 _ _ _ _ _ _ _)
      | (with_reducible exact ih5 _ _ _ _ _ _ _)
      | (with_reducible exact ih6 _ _ _ _ _ _ _ _ _)
      | (with_reducible exact ih7 _ _ _ _ _ _ _ _ _ _ _)
      | (with_reducible exact domesdayref13_Letter.mono _ _ _)
      | (with_reducible exact domesdayref13_Meant.mono _ _ _)
      | (with_reducible exact LeO.refl _)
      | (with_reducible exact LeO.none _)
      | (with_reducible refine LeO.ite ?_ ?_)
      | (with_reducible refine LeO.bind ?_ (fun _ => ?_))
      | exact ih0 _ _ _ _ _
      | exact ih1 _ _ _ _ _ _ _
      | exact ih2 _ _ _ _ _ _ _
      | exact ih3 _ _ _ _ _ _ _ _ _
      | exact ih4 _ _ _ _ _ _ _
      | exact ih5 _ _ _ _ _ _ _
      | exact ih6 _ _ _ _ _ _ _ _ _
      | exact ih7 _ _ _ _ _ _ _ _ _ _ _
      | exact domesdayref13_Letter.mono _ _ _
      | exact domesdayref13_Meant.mono _ _ _
      | exact LeO.none _
      | refine LeO.ite ?_ ?_
      | refine LeO.bind ?_ (fun _ => ?_)
set_option maxHeartbeats 8000000 in
set_option maxRecDepth 100000 in
theorem domesdayref13_Read.calls (k : Nat) (A0 : Option Addr) (c0 : Nat) (l0 : List (S42)) (A1 : Option Addr) (c1 : Nat) (l1 : List ByteArray) (r1 : List (S36)) (r2 : List ByteArray) (r3 : ByteArray) (r4 : Bool) (w : World) (hr0 : Kd.C k42 w A0 l0.length l0) (hc0 : l0.length ≤ c0) (hr1 : Kd.C Kd.string w A1 l1.length l1) (hc1 : l1.length ≤ c1) (h : domesdayref13_Read.f k l0 l1 = some (r1, r2, r3, r4)) :
    Calls Try.prog 11 #[.slice A0 l0.length c0, .slice A1 l1.length c1] w fun e w' => ∃ v0_ v1_ : Value, e = .returned (.tuple #[v0_, v1_, .string r3, .bool r4]) ∧ Kd.R k36 36 w' w.heap.size (fun _ => True) v0_ r1 ∧ Kd.R Kd.string 9 w' w.heap.size (fun _ => True) v1_ r2 ∧ Below w.heap.size w w' := by
  have hu36 := Try.underlying36
  have HR0 := Aside0.mk hr0
  have HC0 := Aside0.mk hc0
  clear hr0 hc0
  have HR1 := Aside0.mk hr1
  have HC1 := Aside0.mk hc1
  clear hr1 hc1
  have HB := Aside0.mk (Below.refl w.heap.size w)
  have H : (domesdayref13_Read.l0 k l0 l1 ([] : List (S36)) ([] : List ByteArray) 0) = some (r1, r2, r3, r4) := h
  clear h
  have H' := Aside0.mk H
  clear H
  go_enter Try.func11, Try.ntmps11
  go_wp2
  go_loopg [8, 9, 10] k (fun kq v8 v9 v10 w' => ∃ (x8_1 : List (S36)) (x9_1 : List ByteArray) (x10_1 : Int), v10 = .int .i64 x10_1 ∧ Aside0 (domesdayref13_Read.l0 kq l0 l1 x8_1 x9_1 x10_1 = some (r1, r2, r3, r4)) ∧ Aside0 (kq ≤ k) ∧ Aside0 (Kd.R k36 36 w' w.heap.size (fun _ => True) v8 x8_1) ∧ Aside0 (Kd.R Kd.string 9 w' w.heap.size (fun _ => True) v9 x9_1) ∧ Aside0 (Below w.heap.size w w'))
  case atStart => exact ⟨(([] : List (S36))), (([] : List ByteArray)), (0), (by first | rfl | (simp; done) | (simp [*]; done)), H', ⟨Nat.le_refl _⟩, ⟨by first | exact Kd.R_nil _ _ _ _ _ | exact Kd.N_nil _ _ _ _ _ | exact Kd.V_nil _ _ _ _ _ | exact Kd.Q_nil _ _ _ _ _ | exact Kd.S_nil _ _ _ _ _⟩, ⟨by first | exact Kd.R_nil _ _ _ _ _ | exact Kd.N_nil _ _ _ _ _ | exact Kd.V_nil _ _ _ _ _ | exact Kd.Q_nil _ _ _ _ _ | exact Kd.S_nil _ _ _ _ _⟩, ⟨by repeat (first | (with_reducible first | exact HB.out | apply below_alloc | apply pw_below_drewN | apply below_drew1) | exact HB.out)⟩⟩
  case round =>
    clear H'
    try clear c1
    try clear p2
    obtain ⟨x8_1, x9_1, x10_1, rfl, HA, HK1, HO_8, HO_9, HB⟩ := hrel
    cases gk with
    | zero => exact absurd HA.out (by simp [domesdayref13_Read.l0])
    | succ k1 =>
      have H := HA.out
      clear HA
      simp only [domesdayref13_Read.l0] at H
      by_cases c3 : x10_1 < (l1.length : Int)
      · rw [if_pos c3] at H
        have c3b0 : decide (x10_1 < (l1.length : Int)) = true := decide_eq_true c3
        clear c3
        by_cases c4 : 0 ≤ x10_1
        · rw [if_pos c4] at H
          have c4b0 : decide (0 ≤ x10_1) = true := decide_eq_true c4
          clear c4
          by_cases c5 : (rdOf ByteArray.empty l1 x10_1).toList = ([45, 45] : List UInt8)
          · rw [if_pos c5] at H
            have c5b0 : ((rdOf ByteArray.empty l1 x10_1).toList == ([45, 45] : List UInt8)) = true := beq_iff_eq.mpr c5
            have c5b1 : ((rdOf ByteArray.empty l1 x10_1).toList != ([45, 45] : List UInt8)) = false := bne_eq_false_iff_eq.mpr c5
            clear c5
            obtain ⟨ji6, hji6⟩ : ∃ j_ : Int, (wrap64 (x10_1 + 1)) = j_ := ⟨_, rfl⟩
            replace H : (if 0 ≤ (ji6) then (if (ji6) ≤ (l1.length : Int) then (if x9_1.length + (l1.drop ((ji6) : Int).toNat).length < 8796093022208 then (some (x8_1, (x9_1 ++ (l1.drop ((ji6) : Int).toNat)), (⟨#[]⟩ : ByteArray), true)) else (none)) else (none)) else (none)) = some (r1, r2, r3, r4) := by first | (rw [hji6] at H; exact H) | (simp only [hji6] at H ⊢; exact H)
            have hji6w : (IntKind.i64.wrap (x10_1 + 1)) = ji6 := (i64_w _).trans hji6
            by_cases c7 : 0 ≤ (ji6)
            · rw [if_pos c7] at H
              have c7b0 := eq_true c7
              have c7b1 : decide (0 ≤ (ji6)) = true := decide_eq_true c7
              clear c7
              by_cases c8 : (ji6) ≤ (l1.length : Int)
              · rw [if_pos c8] at H
                have c8b0 := eq_true c8
                have c8b1 : decide ((ji6) ≤ (l1.length : Int)) = true := decide_eq_true c8
                clear c8
                by_cases c9 : x9_1.length + (l1.drop ((ji6) : Int).toNat).length < 8796093022208
                · rw [if_pos c9] at H
                  have LMc9 := Aside0.mk c9
                  clear c9
                  obtain ⟨y126, hy126⟩ : ∃ y_ : List ByteArray, y_ = (x9_1 ++ (l1.drop ((ji6) : Int).toNat)) := ⟨_, rfl⟩
                  replace H : (some (x8_1, y126, (⟨#[]⟩ : ByteArray), true)) = some (r1, r2, r3, r4) := by first | (rw [hy126]; with_reducible exact H) | (have H2_ := (Option.bind_some _ _).symm.trans H; rw [hy126]; with_reducible exact H2_) | (have H2_ := (Option.bind_some _ _).symm.trans H; with_reducible exact H2_) | with_reducible exact H | (rw [hy126]; exact H) | exact H
                  have Ny126 := Aside0.mk hy126
                  clear hy126
                  simp only [Option.some.injEq, Prod.mk.injEq] at H
                  obtain ⟨rfl, rfl, rfl, rfl⟩ := H
                  have p124 : 0 ≤ (x10_1 : Int) := of_decide_eq_true (by first | (with_reducible assumption) | assumption)
                  have q124 : x10_1 < (l1.length : Int) := of_decide_eq_true (by first | (with_reducible assumption) | assumption)
                  obtain ⟨ad124, e124, hx124_0⟩ := Kd.at_string HR1.out x10_1 p124 q124
                  cases e124
                  replace hx124_0 := (HB.out.cell (World.block_lt_of_cell? w _ hx124_0)).trans hx124_0
                  replace p124 := eq_true p124
                  replace q124 := eq_true q124
                  obtain ⟨i010, hi010, _, hsz10, _⟩ := info_parts info9
                  obtain ⟨A10, hcut10, hA10, hC10⟩ := print_drop_of (P := Try.prog) Value.string (⟨#[]⟩ : ByteArray) 23 9 .i64 Try.underlying23 hi010 hsz10 (some ad124) c1 l1 (ji6) (of_decide_eq_true (by first | (with_reducible assumption) | assumption)) (of_decide_eq_true (by first | (with_reducible assumption) | assumption)) HC1.out
                  have HR125 := Aside0.mk (Kd.C_of_reads (h1 := fun _ => rfl) (hA10 _ (Kd.reads_of_C HR1.out)))
                  have HC125 := Aside0.mk hC10
                  clear hA10 hC10 hi010 hsz10
                  go_wp2_with (first | ((with_reducible refine gate_builtin (b := .append) (xs := #[.tmp 31, .tmp 35]) rfl ?_); (try (refine gate_guard (by rfl) ?_; dsimp only)); at_builtin; refine Kd.R_append_rows Kd.string (w0 := w) w.heap.size rfl (.tmp 31) (.tmp 35) 23 9 (.string ⟨#[]⟩) 16 rfl Try.underlying23 info9 rfl (by decide) (by omega) u9 x9_1 (l1.drop ((ji6) : Int).toNat) _ _ _ (fun _ => True) (fun _ => False) rfl rfl ?aO ?aR (fun _ _ h => h) (fun _ h => h.elim) ?aF ?aB ?aS ?aL ?_; (case aR => first | (rw [← show (l1.drop ((ji6) : Int).toNat).length = (l1.length - (ji6).toNat) from List.length_drop]; repeat (first | exact (Kd.C_below HR125.out HB.out) | (with_reducible refine Kd.C_alloc ?_ _) | (with_reducible refine Kd.C_drewN ?_ _) | (with_reducible refine Kd.C_drew ?_))) | (repeat (first | exact (Kd.C_below HR125.out HB.out) | (with_reducible refine Kd.C_alloc ?_ _) | (with_reducible refine Kd.C_drewN ?_ _) | (with_reducible refine Kd.C_drew ?_)))); (case aB => exact (by repeat (first | (with_reducible first | exact HB.out | apply below_alloc | apply pw_below_drewN | apply below_drew1) | exact HB.out))); (case aF => exact (fun _ _ => trivial)); (case aO => exact (by (with_reducible repeat (first | apply Kd.R_alloc | apply Kd.R_drewN | apply Kd.R_drew)); exact HO_9.out)); (case aS => exact (below_size (by repeat (first | (with_reducible first | exact HB.out | apply below_alloc | apply pw_below_drewN | apply below_drew1) | exact HB.out)))); (case aL => have := LMc9.out; have hlx_ := (show (l1.drop ((ji6) : Int).toNat).length = (l1.length - (ji6).toNat) from List.length_drop); omega); intro v127 w11 ho hb hg hat; rw [← Ny126.out] at ho; have n0_ := Aside0.mk (Kd.R_over' (by (with_reducible repeat (first | apply Kd.R_alloc | apply Kd.R_drewN | apply Kd.R_drew)); exact HO_8.out) (Kd.R_typed (by (with_reducible repeat (first | apply Kd.R_alloc | apply Kd.R_drewN | apply Kd.R_drew)); exact HO_9.out)) (by decide) hg); have n1_ := Aside0.mk (hb); have n2_ := Aside0.mk (ho); clear HO_8; clear HB; clear HO_9; have HO_8 := n0_; have HB := n1_; have HO128 := n2_; clear n0_ n1_ n2_; clear ho hb hg hat))
                  refine bodyPost_ret (results_list (rs := [.tmp 4, .tmp 5, .tmp 6, .tmp 7]) rfl (by simp) (.tmp (.tmp (.tmp (.tmp .nil))))) rfl ?_
                  exact ⟨_, _, by first | rfl | (simp [errW_none, errW_some] <;> rfl) | (simp only [← hji6]; first | rfl | (simp [errW_none, errW_some] <;> rfl)) | (simp [*, errW_none, errW_some] <;> rfl), by (with_reducible repeat (first | apply Kd.R_alloc | apply Kd.R_drewN | apply Kd.R_drew)); exact HO_8.out, by (with_reducible repeat (first | apply Kd.R_alloc | apply Kd.R_drewN | apply Kd.R_drew)); exact HO128.out, by repeat (first | (with_reducible first | exact HB.out | apply below_alloc | apply pw_below_drewN | apply below_drew1) | exact HB.out)⟩
                · rw [if_neg c9] at H
                  exact absurd H (by simp)
              · rw [if_neg c8] at H
                exact absurd H (by simp)
            · rw [if_neg c7] at H
              exact absurd H (by simp)
          · rw [if_neg c5] at H
            have c5b0 : ((rdOf ByteArray.empty l1 x10_1).toList == ([45, 45] : List UInt8)) = false := beq_eq_false_iff_ne.mpr c5
            have c5b1 : ((rdOf ByteArray.empty l1 x10_1).toList != ([45, 45] : List UInt8)) = true := bne_iff_ne.mpr c5
            have HC12 := Aside0.mk H
            clear H
            have p124 : 0 ≤ (x10_1 : Int) := of_decide_eq_true (by first | (with_reducible assumption) | assumption)
            have q124 : x10_1 < (l1.length : Int) := of_decide_eq_true (by first | (with_reducible assumption) | assumption)
            obtain ⟨ad124, e124, hx124_0⟩ := Kd.at_string HR1.out x10_1 p124 q124
            cases e124
            replace hx124_0 := (HB.out.cell (World.block_lt_of_cell? w _ hx124_0)).trans hx124_0
            replace p124 := eq_true p124
            replace q124 := eq_true q124
            go_upto_region 9 with (fail)
            go_cut [44] (fun v44 wc => ∃ (kq : Nat) (x44_11 : Bool), v44 = .bool x44_11 ∧ Aside0 (domesdayref13_Read.j1 kq l0 l1 x8_1 x9_1 x10_1 (rdOf ByteArray.empty l1 x10_1) x44_11 = some (r1, r2, r3, r4)) ∧ Aside0 (kq ≤ k1) ∧ Aside0 (Kd.R k36 36 wc w.heap.size (fun _ => True) u8 x8_1) ∧ Aside0 (Kd.R Kd.string 9 wc w.heap.size (fun _ => True) u9 x9_1) ∧ Aside0 (Below w.heap.size w wc))
            case first =>
              have H := HC12.out
              clear HC12
              by_cases c13 : ((rdOf ByteArray.empty l1 x10_1).size : Int) < 2
              · rw [if_pos c13] at H
                have c13b0 : decide (((rdOf ByteArray.empty l1 x10_1).size : Int) < 2) = true := decide_eq_true c13
                have c13b1 : decide ((rdOf ByteArray.empty l1 x10_1).size < 2) = true := decide_eq_true (by omega)
                clear c13
                (first | rw [c13b0] | (simp only [i64_w, i32_w]; rw [c13b0]) | skip)
                have H' := Aside0.mk H
                clear H
                go_wp2
                go_meet
                case rel => exact ⟨_, (true), (by first | rfl | (simp; done) | (simp [*]; done)), H', ⟨by have := HK1.out; first | omega | exact Nat.le_refl _⟩, ⟨by (with_reducible repeat (first | apply Kd.R_alloc | apply Kd.R_drewN | apply Kd.R_drew)); exact HO_8.out⟩, ⟨by (with_reducible repeat (first | apply Kd.R_alloc | apply Kd.R_drewN | apply Kd.R_drew)); exact HO_9.out⟩, ⟨by repeat (first | (with_reducible first | exact HB.out | apply below_alloc | apply pw_below_drewN | apply below_drew1) | exact HB.out)⟩⟩
              · rw [if_neg c13] at H
                have c13b0 : decide (((rdOf ByteArray.empty l1 x10_1).size : Int) < 2) = false := decide_eq_false c13
                have c13b1 : decide ((rdOf ByteArray.empty l1 x10_1).size < 2) = false := decide_eq_false (by omega)
                clear c13
                (first | rw [c13b0] | (simp only [i64_w, i32_w]; rw [c13b0]) | skip)
                by_cases c14 : 0 < ((rdOf ByteArray.empty l1 x10_1).size : Int)
                · rw [if_pos c14] at H
                  have c14b0 : decide (0 < ((rdOf ByteArray.empty l1 x10_1).size : Int)) = true := decide_eq_true c14
                  have c14b1 : decide (0 < (rdOf ByteArray.empty l1 x10_1).size) = true := decide_eq_true (by omega)
                  clear c14
                  have H' := Aside0.mk H
                  clear H
                  have p15 : 0 ≤ (0 : Int) := (by omega)
                  have q15 : 0 < (rdOf ByteArray.empty l1 x10_1).size := (by have : (0 : Int) < ((rdOf ByteArray.empty l1 x10_1).size : Int) := of_decide_eq_true (by first | (with_reducible assumption) | assumption); omega)
                  have hx15 : ∀ h : 0 < (rdOf ByteArray.empty l1 x10_1).size, (((rdOf ByteArray.empty l1 x10_1)[0]'h).toNat : Int) = bt (rdOf ByteArray.empty l1 x10_1) 0 := bt_at (rdOf ByteArray.empty l1 x10_1) 0
                  clear p15
                  have qi15 : (0 < ((rdOf ByteArray.empty l1 x10_1).size : Int)) = True := eq_true (of_decide_eq_true (by first | (with_reducible assumption) | assumption))
                  replace q15 := eq_true q15
                  go_wp2
                  go_meet
                  case rel => exact ⟨_, (((bt (rdOf ByteArray.empty l1 x10_1) 0) != 45)), (by first | rfl | (simp; done) | (simp [*]; done)), H', ⟨by have := HK1.out; first | omega | exact Nat.le_refl _⟩, ⟨by (with_reducible repeat (first | apply Kd.R_alloc | apply Kd.R_drewN | apply Kd.R_drew)); exact HO_8.out⟩, ⟨by (with_reducible repeat (first | apply Kd.R_alloc | apply Kd.R_drewN | apply Kd.R_drew)); exact HO_9.out⟩, ⟨by repeat (first | (with_reducible first | exact HB.out | apply below_alloc | apply pw_below_drewN | apply below_drew1) | exact HB.out)⟩⟩
                · rw [if_neg c14] at H
                  exact absurd H (by simp)
            case rest =>
              clear HC12
              try clear c1
              try clear p1
              try clear q1
              try clear hx1
              try clear qi1
              try clear p2
              try clear c3
              try clear c3b0
              try clear c4
              try clear c4b0
              try clear c5
              try clear c5b0
              try clear c5b1
              try clear p6
              try clear c7
              try clear c7b0
              try clear c7b1
              try clear c8
              try clear c8b0
              try clear c8b1
              try clear c9
              try clear c11
              try clear p12
              try clear q12
              try clear hx12
              try clear c13
              try clear c13b0
              try clear c13b1
              try clear c14
              try clear c14b0
              try clear c14b1
              try clear p15
              try clear q15
              try clear hx15
              try clear qi15
              try clear hx124_0
              try clear p124
              try clear p15
              try clear p2
              try clear q124
              try clear q15
              obtain ⟨kq, x44_11, rfl, HA, HJ11, HO_8, HO_9, HB⟩ := hcut
              cases kq with
              | zero => exact absurd HA.out (by simp [domesdayref13_Read.j1])
              | succ kj11 =>
                have H := HA.out
                clear HA
                simp only [domesdayref13_Read.j1] at H
                by_cases c16 : x44_11 = true
                · subst c16
                  have H1 : (if x9_1.length < 8796093022208 then (domesdayref13_Read.l0 kj11 l0 l1 x8_1 (x9_1 ++ [(rdOf ByteArray.empty l1 x10_1)]) (wrap64 (x10_1 + 1))) else (none)) = some (r1, r2, r3, r4) := by rw [if_pos rfl] at H; exact H
                  clear H
                  have H := H1
                  clear H1
                  by_cases c17 : x9_1.length < 8796093022208
                  · rw [if_pos c17] at H
                    have LMc17 := Aside0.mk c17
                    clear c17
                    obtain ⟨y129, hy129⟩ : ∃ y_ : List ByteArray, y_ = (x9_1 ++ [(rdOf ByteArray.empty l1 x10_1)]) := ⟨_, rfl⟩
                    replace H : (domesdayref13_Read.l0 kj11 l0 l1 x8_1 y129 (wrap64 (x10_1 + 1))) = some (r1, r2, r3, r4) := by first | (rw [hy129]; with_reducible exact H) | (have H2_ := (Option.bind_some _ _).symm.trans H; rw [hy129]; with_reducible exact H2_) | (have H2_ := (Option.bind_some _ _).symm.trans H; with_reducible exact H2_) | with_reducible exact H | (rw [hy129]; exact H) | exact H
                    have Ny129 := Aside0.mk hy129
                    clear hy129
                    have H' := Aside0.mk H
                    clear H
                    go_wp2_with (first | ((with_reducible refine gate_builtin (b := .append) (xs := #[.tmp 45, .tmp 47]) rfl ?_); (try (refine gate_guard (by rfl) ?_; dsimp only)); at_builtin; refine Kd.R_append Kd.string (w0 := w) w.heap.size rfl (.tmp 45) (.tmp 47) 23 9 (.string ⟨#[]⟩) 16 rfl Try.underlying23 info9 rfl (by decide) (by omega) u9 x9_1 (rdOf ByteArray.empty l1 x10_1) [.string (rdOf ByteArray.empty l1 x10_1)] (fun _ => True) (fun _ => False) rfl rfl ?aP (fun _ hk => hk.elim) ?aF ?aO ?aB ?aS ?aL ?_; (case aP => exact rfl); (case aB => exact (by repeat (first | (with_reducible first | exact HB.out | apply below_alloc | apply pw_below_drewN | apply below_drew1) | exact HB.out))); (case aF => exact (fun _ _ => trivial)); (case aO => exact (by (with_reducible repeat (first | apply Kd.R_alloc | apply Kd.R_drewN | apply Kd.R_drew)); exact HO_9.out)); (case aS => exact (below_size (by repeat (first | (with_reducible first | exact HB.out | apply below_alloc | apply pw_below_drewN | apply below_drew1) | exact HB.out)))); (case aL => have := LMc17.out; omega); intro v130 w18 ho hb hg hat; rw [← Ny129.out] at ho; have n0_ := Aside0.mk (Kd.R_over' (by (with_reducible repeat (first | apply Kd.R_alloc | apply Kd.R_drewN | apply Kd.R_drew)); exact HO_8.out) (Kd.R_typed (by (with_reducible repeat (first | apply Kd.R_alloc | apply Kd.R_drewN | apply Kd.R_drew)); exact HO_9.out)) (by decide) hg); have n1_ := Aside0.mk (hb); have n2_ := Aside0.mk (ho); clear HO_8; clear HB; clear HO_9; have HO_8 := n0_; have HB := n1_; have HO131 := n2_; clear n0_ n1_ n2_; clear ho hb hg hat))
                    go_roundg kj11
                    case measure => have := HK1.out; have := HJ11.out; omega
                    case rel => exact ⟨(x8_1), (y129), (wrap64 (x10_1 + 1)), (by first | rfl | (simp; done) | (simp [*]; done)), H', ⟨by have := HK1.out; have := HJ11.out; omega⟩, ⟨by (with_reducible repeat (first | apply Kd.R_alloc | apply Kd.R_drewN | apply Kd.R_drew)); exact HO_8.out⟩, ⟨by (with_reducible repeat (first | apply Kd.R_alloc | apply Kd.R_drewN | apply Kd.R_drew)); exact HO131.out⟩, ⟨by repeat (first | (with_reducible first | exact HB.out | apply below_alloc | apply pw_below_drewN | apply below_drew1) | exact HB.out)⟩⟩
                  · rw [if_neg c17] at H
                    exact absurd H (by simp)
                · replace c16 := Bool.eq_false_iff.mpr c16
                  subst c16
                  have H1 : ((domesdayref13_begins.f (rdOf ByteArray.empty l1 x10_1) (⟨#[45, 45]⟩ : ByteArray)).bind fun t132 => (if t132 = true then (domesdayref13_Read.l1 kj11 l0 l1 x8_1 x9_1 x10_1 (rdOf ByteArray.empty l1 x10_1) 2) else (domesdayref13_Read.l2 kj11 l0 l1 x8_1 x9_1 x10_1 (rdOf ByteArray.empty l1 x10_1) 1))) = some (r1, r2, r3, r4) := by rw [if_neg (show ¬ (false = true) by decide)] at H; exact H
                  clear H
                  have H := H1
                  clear H1
                  replace H := Option.bind_eq_some_iff.mp H
                  obtain ⟨t132, A190, H⟩ := H
                  replace H : (if t132 = true then (domesdayref13_Read.l1 kj11 l0 l1 x8_1 x9_1 x10_1 (rdOf ByteArray.empty l1 x10_1) 2) else (domesdayref13_Read.l2 kj11 l0 l1 x8_1 x9_1 x10_1 (rdOf ByteArray.empty l1 x10_1) 1)) = some (r1, r2, r3, r4) := H
                  have A19 := Aside0.mk A190
                  clear A190
                  by_cases c20 : t132 = true
                  · subst c20
                    have H1 : (domesdayref13_Read.l1 kj11 l0 l1 x8_1 x9_1 x10_1 (rdOf ByteArray.empty l1 x10_1) 2) = some (r1, r2, r3, r4) := by rw [if_pos rfl] at H; exact H
                    clear H
                    have H := H1
                    clear H1
                    have HC21 := Aside0.mk H
                    clear H
                    go_upto_block 2 with (first | ((with_reducible refine gate_callee (f := 17) rfl ?_); refine goesL_ (some 50) rfl rfl Try.func17 (by kernel_rfl) rfl #[.string (rdOf ByteArray.empty l1 x10_1), .string (⟨#[45, 45]⟩ : ByteArray)] rfl (by (try simp only [List.map_toArray, List.map_cons, List.map_nil]); first | done | rfl | (simp only [List.length_drop, List.length_take]; rfl)) ?_; (with_reducible refine (domesdayref13_begins.calls (rdOf ByteArray.empty l1 x10_1) (⟨#[45, 45]⟩ : ByteArray) true _ A19.out).mono ?_); rintro e w' ⟨rfl, ⟨nd, rfl⟩⟩; refine ⟨_, rfl, ?_⟩))
                    (try simp only [Act.put, List.setIfInBounds_toArray, List.set_cons_zero, List.set_cons_succ])
                    go_cut [12] (fun v12 wc => ∃ (kq : Nat) (x12_20 : Int), v12 = .int .i64 x12_20 ∧ Aside0 (domesdayref13_Read.j3 kq l0 l1 x8_1 x9_1 x10_1 (rdOf ByteArray.empty l1 x10_1) x12_20 = some (r1, r2, r3, r4)) ∧ Aside0 (kq ≤ kj11) ∧ Aside0 (Kd.R k36 36 wc w.heap.size (fun _ => True) u8 x8_1) ∧ Aside0 (Kd.R Kd.string 9 wc w.heap.size (fun _ => True) u9 x9_1) ∧ Aside0 (Below w.heap.size w wc))
                    case first =>
                      have H := HC21.out
                      clear HC21
                      have H' := Aside0.mk H
                      clear H
                      go_wp2
                      go_loopg [12] kj11 (fun kq v12 w' => ∃ (x12_3 : Int), v12 = .int .i64 x12_3 ∧ Aside0 (domesdayref13_Read.l1 kq l0 l1 x8_1 x9_1 x10_1 (rdOf ByteArray.empty l1 x10_1) x12_3 = some (r1, r2, r3, r4)) ∧ Aside0 (kq ≤ kj11) ∧ Aside0 (Kd.R k36 36 w' w.heap.size (fun _ => True) u8 x8_1) ∧ Aside0 (Kd.R Kd.string 9 w' w.heap.size (fun _ => True) u9 x9_1) ∧ Aside0 (Below w.heap.size w w'))
                      case atStart => exact ⟨(2), (by first | rfl | (simp; done) | (simp [*]; done)), H', ⟨Nat.le_refl _⟩, ⟨by (with_reducible repeat (first | apply Kd.R_alloc | apply Kd.R_drewN | apply Kd.R_drew)); exact HO_8.out⟩, ⟨by (with_reducible repeat (first | apply Kd.R_alloc | apply Kd.R_drewN | apply Kd.R_drew)); exact HO_9.out⟩, ⟨by repeat (first | (with_reducible first | exact HB.out | apply below_alloc | apply pw_below_drewN | apply below_drew1) | exact HB.out)⟩⟩
                      case round =>
                        clear H'
                        try clear c1
                        try clear p1
                        try clear q1
                        try clear hx1
                        try clear qi1
                        try clear c2
                        try clear p2
                        try clear c3
                        try clear c3b0
                        try clear c4
                        try clear c4b0
                        try clear c5
                        try clear c5b0
                        try clear c5b1
                        try clear p6
                        try clear c7
                        try clear c7b0
                        try clear c7b1
                        try clear c8
                        try clear c8b0
                        try clear c8b1
                        try clear c9
                        try clear c11
                        try clear p12
                        try clear q12
                        try clear hx12
                        try clear c13
                        try clear c13b0
                        try clear c13b1
                        try clear c14
                        try clear c14b0
                        try clear c14b1
                        try clear p15
                        try clear q15
                        try clear hx15
                        try clear qi15
                        try clear c16
                        try clear c17
                        try clear c20
                        try clear hx124_0
                        try clear p1
                        try clear p12
                        try clear p124
                        try clear p15
                        try clear p2
                        try clear p6
                        try clear q1
                        try clear q12
                        try clear q124
                        try clear q15
                        obtain ⟨x12_3, rfl, HA, HK3, HO_8, HO_9, HB⟩ := hrel
                        cases gk with
                        | zero => exact absurd HA.out (by simp [domesdayref13_Read.l1])
                        | succ k3 =>
                          have H := HA.out
                          clear HA
                          simp only [domesdayref13_Read.l1] at H
                          by_cases c22 : x12_3 < ((rdOf ByteArray.empty l1 x10_1).size : Int)
                          · rw [if_pos c22] at H
                            have c22b0 : decide (x12_3 < ((rdOf ByteArray.empty l1 x10_1).size : Int)) = true := decide_eq_true c22
                            clear c22
                            (first | rw [c22b0] | (simp only [i64_w, i32_w]; rw [c22b0]) | skip)
                            by_cases c23 : 0 ≤ x12_3
                            · rw [if_pos c23] at H
                              have c23b0 : decide (0 ≤ x12_3) = true := decide_eq_true c23
                              clear c23
                              by_cases c25 : (bt (rdOf ByteArray.empty l1 x10_1) x12_3) = 61
                              · rw [if_pos c25] at H
                                have c25b0 : ((bt (rdOf ByteArray.empty l1 x10_1) x12_3) == 61) = true := beq_iff_eq.mpr c25
                                have c25b1 : ((bt (rdOf ByteArray.empty l1 x10_1) x12_3) != 61) = false := bne_eq_false_iff_eq.mpr c25
                                clear c25
                                have H' := Aside0.mk H
                                clear H
                                have p24 : 0 ≤ (x12_3 : Int) := of_decide_eq_true (by first | (with_reducible assumption) | assumption)
                                have q24 : x12_3 < ((rdOf ByteArray.empty l1 x10_1).size : Int) := of_decide_eq_true (by first | (with_reducible assumption) | assumption)
                                have hx24 := bt_at (rdOf ByteArray.empty l1 x10_1) x12_3
                                replace p24 := eq_true p24
                                replace q24 := eq_true q24
                                go_wp2
                                go_meet
                                case rel => exact ⟨_, (x12_3), (by first | rfl | (simp; done) | (simp [*]; done)), H', ⟨by have := HK1.out; have := HJ11.out; have := HK3.out; first | omega | exact Nat.le_refl _⟩, ⟨by (with_reducible repeat (first | apply Kd.R_alloc | apply Kd.R_drewN | apply Kd.R_drew)); exact HO_8.out⟩, ⟨by (with_reducible repeat (first | apply Kd.R_alloc | apply Kd.R_drewN | apply Kd.R_drew)); exact HO_9.out⟩, ⟨by repeat (first | (with_reducible first | exact HB.out | apply below_alloc | apply pw_below_drewN | apply below_drew1) | exact HB.out)⟩⟩
                              · rw [if_neg c25] at H
                                have c25b0 : ((bt (rdOf ByteArray.empty l1 x10_1) x12_3) == 61) = false := beq_eq_false_iff_ne.mpr c25
                                have c25b1 : ((bt (rdOf ByteArray.empty l1 x10_1) x12_3) != 61) = true := bne_iff_ne.mpr c25
                                have H' := Aside0.mk H
                                clear H
                                have p24 : 0 ≤ (x12_3 : Int) := of_decide_eq_true (by first | (with_reducible assumption) | assumption)
                                have q24 : x12_3 < ((rdOf ByteArray.empty l1 x10_1).size : Int) := of_decide_eq_true (by first | (with_reducible assumption) | assumption)
                                have hx24 := bt_at (rdOf ByteArray.empty l1 x10_1) x12_3
                                replace p24 := eq_true p24
                                replace q24 := eq_true q24
                                go_wp2
                                go_roundg k3
                                case measure => have := HK1.out; have := HJ11.out; have := HK3.out; omega
                                case rel => exact ⟨(wrap64 (x12_3 + 1)), (by first | rfl | (simp; done) | (simp [*]; done)), H', ⟨by have := HK1.out; have := HJ11.out; have := HK3.out; omega⟩, ⟨by (with_reducible repeat (first | apply Kd.R_alloc | apply Kd.R_drewN | apply Kd.R_drew)); exact HO_8.out⟩, ⟨by (with_reducible repeat (first | apply Kd.R_alloc | apply Kd.R_drewN | apply Kd.R_drew)); exact HO_9.out⟩, ⟨by repeat (first | (with_reducible first | exact HB.out | apply below_alloc | apply pw_below_drewN | apply below_drew1) | exact HB.out)⟩⟩
                            · rw [if_neg c23] at H
                              exact absurd H (by simp)
                          · rw [if_neg c22] at H
                            have c22b0 : decide (x12_3 < ((rdOf ByteArray.empty l1 x10_1).size : Int)) = false := decide_eq_false c22
                            clear c22
                            (first | rw [c22b0] | (simp only [i64_w, i32_w]; rw [c22b0]) | skip)
                            have H' := Aside0.mk H
                            clear H
                            go_wp2
                            go_meet
                            case rel => exact ⟨_, (x12_3), (by first | rfl | (simp; done) | (simp [*]; done)), H', ⟨by have := HK1.out; have := HJ11.out; have := HK3.out; first | omega | exact Nat.le_refl _⟩, ⟨by (with_reducible repeat (first | apply Kd.R_alloc | apply Kd.R_drewN | apply Kd.R_drew)); exact HO_8.out⟩, ⟨by (with_reducible repeat (first | apply Kd.R_alloc | apply Kd.R_drewN | apply Kd.R_drew)); exact HO_9.out⟩, ⟨by repeat (first | (with_reducible first | exact HB.out | apply below_alloc | apply pw_below_drewN | apply below_drew1) | exact HB.out)⟩⟩
                    case rest =>
                      as_aux_lemma =>
                       clear HC21
                       try clear c1
                       try clear p1
                       try clear q1
                       try clear hx1
                       try clear qi1
                       try clear c2
                       try clear p2
                       try clear q2
                       try clear hx2
                       try clear c3
                       try clear c3b0
                       try clear c4
                       try clear c4b0
                       try clear c5
                       try clear c5b0
                       try clear c5b1
                       try clear p6
                       try clear c7
                       try clear c7b0
                       try clear c7b1
                       try clear c8
                       try clear c8b0
                       try clear c8b1
                       try clear c9
                       try clear c11
                       try clear p12
                       try clear q12
                       try clear hx12
                       try clear c13
                       try clear c13b0
                       try clear c13b1
                       try clear c14
                       try clear c14b0
                       try clear c14b1
                       try clear p15
                       try clear q15
                       try clear hx15
                       try clear qi15
                       try clear c16
                       try clear c17
                       try clear c20
                       try clear c22
                       try clear c22b0
                       try clear c23
                       try clear c23b0
                       try clear p24
                       try clear q24
                       try clear hx24
                       try clear c25
                       try clear c25b0
                       try clear c25b1
                       try clear hx124_0
                       try clear p1
                       try clear p12
                       try clear p124
                       try clear p15
                       try clear p2
                       try clear p24
                       try clear p6
                       try clear q1
                       try clear q12
                       try clear q124
                       try clear q15
                       try clear q24
                       obtain ⟨kq, x12_20, rfl, HA, HJ20, HO_8, HO_9, HB⟩ := hcut
                       cases kq with
                       | zero => exact absurd HA.out (by simp [domesdayref13_Read.j3])
                       | succ kj20 =>
                         have H := HA.out
                         clear HA
                         simp only [domesdayref13_Read.j3] at H
                         by_cases c26 : 2 ≤ x12_20
                         · rw [if_pos c26] at H
                           have c26b0 := eq_true c26
                           have c26b1 : decide (2 ≤ x12_20) = true := decide_eq_true c26
                           clear c26
                           by_cases c27 : x12_20 ≤ ((rdOf ByteArray.empty l1 x10_1).size : Int)
                           · rw [if_pos c27] at H
                             have c27b0 := eq_true c27
                             have c27b1 : decide (x12_20 ≤ ((rdOf ByteArray.empty l1 x10_1).size : Int)) = true := decide_eq_true c27
                             clear c27
                             replace H := Option.bind_eq_some_iff.mp H
                             obtain ⟨t133, A280, H⟩ := H
                             replace H : (if t133 < 0 then (domesdayref13_Read.j4 kj20 l0 l1 x8_1 x9_1 x10_1 (rdOf ByteArray.empty l1 x10_1) x12_20 t133 true) else (if x12_20 < ((rdOf ByteArray.empty l1 x10_1).size : Int) then (if 0 ≤ t133 then (if t133 < (l0.length : Int) then (if ((rd_T42 l0 t133).f2 = true) then (if x12_20 = ((rdOf ByteArray.empty l1 x10_1).size : Int) then (if (rd_T42 l0 t133).f2 = true then (domesdayref13_Read.j4 kj20 l0 l1 x8_1 x9_1 x10_1 (rdOf ByteArray.empty l1 x10_1) x12_20 t133 ((wrap64 (x10_1 + 1)) == (l1.length : Int))) else (domesdayref13_Read.j4 kj20 l0 l1 x8_1 x9_1 x10_1 (rdOf ByteArray.empty l1 x10_1) x12_20 t133 false)) else (domesdayref13_Read.j4 kj20 l0 l1 x8_1 x9_1 x10_1 (rdOf ByteArray.empty l1 x10_1) x12_20 t133 false)) else (domesdayref13_Read.j4 kj20 l0 l1 x8_1 x9_1 x10_1 (rdOf ByteArray.empty l1 x10_1) x12_20 t133 true)) else (none)) else (none)) else (if x12_20 = ((rdOf ByteArray.empty l1 x10_1).size : Int) then (if 0 ≤ t133 then (if t133 < (l0.length : Int) then (if (rd_T42 l0 t133).f2 = true then (domesdayref13_Read.j4 kj20 l0 l1 x8_1 x9_1 x10_1 (rdOf ByteArray.empty l1 x10_1) x12_20 t133 ((wrap64 (x10_1 + 1)) == (l1.length : Int))) else (domesdayref13_Read.j4 kj20 l0 l1 x8_1 x9_1 x10_1 (rdOf ByteArray.empty l1 x10_1) x12_20 t133 false)) else (none)) else (none)) else (domesdayref13_Read.j4 kj20 l0 l1 x8_1 x9_1 x10_1 (rdOf ByteArray.empty l1 x10_1) x12_20 t133 false)))) = some (r1, r2, r3, r4) := H
                             have A28 := Aside0.mk A280
                             clear A280
                             have HC29 := Aside0.mk H
                             clear H
                             go_upto_region 16 with (first | ((with_reducible refine gate_callee (f := 18) rfl ?_); refine goesL_ (some 67) rfl rfl Try.func18 (by kernel_rfl) rfl #[.slice A0 l0.length c0, .string ((rdOf ByteArray.empty l1 x10_1).extract 2 (x12_20 : Int).toNat)] rfl (by (try simp only [List.map_toArray, List.map_cons, List.map_nil]); first | done | rfl | (simp only [List.length_drop, List.length_take]; rfl)) ?_; (with_reducible refine (domesdayref13_Meant.calls kj20 _ _ l0 ((rdOf ByteArray.empty l1 x10_1).extract 2 (x12_20 : Int).toNat) t133 _ ?side1 ?side2 A28.out).mono ?_); (case side1 => repeat (first | exact (Kd.C_below HR0.out HB.out) | (with_reducible refine Kd.C_alloc ?_ _) | (with_reducible refine Kd.C_drewN ?_ _) | (with_reducible refine Kd.C_drew ?_))); (case side2 => exact HC0.out); rintro e w' ⟨rfl, ⟨nd, rfl⟩⟩; refine ⟨_, rfl, ?_⟩))
                             (try simp only [Act.put, List.setIfInBounds_toArray, List.set_cons_zero, List.set_cons_succ])
                             go_cut [103] (fun v103 wc => ∃ (kq : Nat) (x103_28 : Bool), v103 = .bool x103_28 ∧ Aside0 (domesdayref13_Read.j4 kq l0 l1 x8_1 x9_1 x10_1 (rdOf ByteArray.empty l1 x10_1) x12_20 t133 x103_28 = some (r1, r2, r3, r4)) ∧ Aside0 (kq ≤ kj20) ∧ Aside0 (Kd.R k36 36 wc w.heap.size (fun _ => True) u8 x8_1) ∧ Aside0 (Kd.R Kd.string 9 wc w.heap.size (fun _ => True) u9 x9_1) ∧ Aside0 (Below w.heap.size w wc))
                             case first =>
                               have H := HC29.out
                               clear HC29
                               by_cases c30 : t133 < 0
                               · rw [if_pos c30] at H
                                 have c30b0 : decide (t133 < 0) = true := decide_eq_true c30
                                 clear c30
                                 (first | rw [c30b0] | (simp only [i64_w, i32_w]; rw [c30b0]) | skip)
                                 have H' := Aside0.mk H
                                 clear H
                                 go_wp2
                                 go_meet
                                 case rel => exact ⟨_, (true), (by first | rfl | (simp; done) | (simp [*]; done)), H', ⟨by have := HK1.out; have := HJ11.out; have := HJ20.out; first | omega | exact Nat.le_refl _⟩, ⟨by (with_reducible repeat (first | apply Kd.R_alloc | apply Kd.R_drewN | apply Kd.R_drew)); exact HO_8.out⟩, ⟨by (with_reducible repeat (first | apply Kd.R_alloc | apply Kd.R_drewN | apply Kd.R_drew)); exact HO_9.out⟩, ⟨by repeat (first | (with_reducible first | exact HB.out | apply below_alloc | apply pw_below_drewN | apply below_drew1) | exact HB.out)⟩⟩
                               · rw [if_neg c30] at H
                                 have c30b0 : decide (t133 < 0) = false := decide_eq_false c30
                                 clear c30
                                 (first | rw [c30b0] | (simp only [i64_w, i32_w]; rw [c30b0]) | skip)
                                 by_cases c31 : x12_20 < ((rdOf ByteArray.empty l1 x10_1).size : Int)
                                 · rw [if_pos c31] at H
                                   have c31b0 : decide (x12_20 < ((rdOf ByteArray.empty l1 x10_1).size : Int)) = true := decide_eq_true c31
                                   clear c31
                                   by_cases c32 : 0 ≤ t133
                                   · rw [if_pos c32] at H
                                     have c32b0 : decide (0 ≤ t133) = true := decide_eq_true c32
                                     clear c32
                                     by_cases c33 : t133 < (l0.length : Int)
                                     · rw [if_pos c33] at H
                                       have c33b0 : decide (t133 < (l0.length : Int)) = true := decide_eq_true c33
                                       clear c33
                                       obtain ⟨bq34, hbq34⟩ : ∃ b_ : Bool, b_ = ((rd_T42 l0 t133).f2) := ⟨_, rfl⟩
                                       replace H : (if (bq34 = true) then (if x12_20 = ((rdOf ByteArray.empty l1 x10_1).size : Int) then (if bq34 = true then (domesdayref13_Read.j4 kj20 l0 l1 x8_1 x9_1 x10_1 (rdOf ByteArray.empty l1 x10_1) x12_20 t133 ((wrap64 (x10_1 + 1)) == (l1.length : Int))) else (domesdayref13_Read.j4 kj20 l0 l1 x8_1 x9_1 x10_1 (rdOf ByteArray.empty l1 x10_1) x12_20 t133 false)) else (domesdayref13_Read.j4 kj20 l0 l1 x8_1 x9_1 x10_1 (rdOf ByteArray.empty l1 x10_1) x12_20 t133 false)) else (domesdayref13_Read.j4 kj20 l0 l1 x8_1 x9_1 x10_1 (rdOf ByteArray.empty l1 x10_1) x12_20 t133 true)) = some (r1, r2, r3, r4) := by rw [← hbq34] at H; exact H
                                       have Nbq34 := Aside0.mk hbq34
                                       clear hbq34
                                       by_cases c35 : (bq34 = true)
                                       · subst c35
                                         have H1 : (if x12_20 = ((rdOf ByteArray.empty l1 x10_1).size : Int) then (if true = true then (domesdayref13_Read.j4 kj20 l0 l1 x8_1 x9_1 x10_1 (rdOf ByteArray.empty l1 x10_1) x12_20 t133 ((wrap64 (x10_1 + 1)) == (l1.length : Int))) else (domesdayref13_Read.j4 kj20 l0 l1 x8_1 x9_1 x10_1 (rdOf ByteArray.empty l1 x10_1) x12_20 t133 false)) else (domesdayref13_Read.j4 kj20 l0 l1 x8_1 x9_1 x10_1 (rdOf ByteArray.empty l1 x10_1) x12_20 t133 false)) = some (r1, r2, r3, r4) := by rw [if_pos rfl] at H; exact H
                                         clear H
                                         have H := H1
                                         clear H1
                                         by_cases c36 : x12_20 = ((rdOf ByteArray.empty l1 x10_1).size : Int)
                                         · rw [if_pos c36] at H
                                           have c36b0 : (x12_20 == ((rdOf ByteArray.empty l1 x10_1).size : Int)) = true := beq_iff_eq.mpr c36
                                           have c36b1 : (x12_20 != ((rdOf ByteArray.empty l1 x10_1).size : Int)) = false := bne_eq_false_iff_eq.mpr c36
                                           clear c36
                                           by_cases c37 : true = true
                                           · clear c37
                                             have H1 : (domesdayref13_Read.j4 kj20 l0 l1 x8_1 x9_1 x10_1 (rdOf ByteArray.empty l1 x10_1) x12_20 t133 ((wrap64 (x10_1 + 1)) == (l1.length : Int))) = some (r1, r2, r3, r4) := by rw [if_pos rfl] at H; exact H
                                             clear H
                                             have H := H1
                                             clear H1
                                             have H' := Aside0.mk H
                                             clear H
                                             have p134 : 0 ≤ (t133 : Int) := of_decide_eq_true (by first | (with_reducible assumption) | assumption)
                                             have q134 : t133 < (l0.length : Int) := of_decide_eq_true (by first | (with_reducible assumption) | assumption)
                                             obtain ⟨ad134, e134, hx134_0, hx134_1, hx134_2⟩ := at_T42 HR0.out t133 p134 q134
                                             (try rw [← Nbq34.out] at hx134_2)
                                             cases e134
                                             replace hx134_0 := (HB.out.cell (World.block_lt_of_cell? w _ hx134_0)).trans hx134_0
                                             replace hx134_1 := (HB.out.cell (World.block_lt_of_cell? w _ hx134_1)).trans hx134_1
                                             replace hx134_2 := (HB.out.cell (World.block_lt_of_cell? w _ hx134_2)).trans hx134_2
                                             replace p134 := eq_true p134
                                             replace q134 := eq_true q134
                                             have p135 : 0 ≤ (t133 : Int) := of_decide_eq_true (by first | (with_reducible assumption) | assumption)
                                             have q135 : t133 < (l0.length : Int) := of_decide_eq_true (by first | (with_reducible assumption) | assumption)
                                             obtain ⟨ad135, e135, hx135_0, hx135_1, hx135_2⟩ := at_T42 HR0.out t133 p135 q135
                                             (try rw [← Nbq34.out] at hx135_2)
                                             obtain rfl : ad134 = ad135 := (by injection e135)
                                             replace hx135_0 := (HB.out.cell (World.block_lt_of_cell? w _ hx135_0)).trans hx135_0
                                             replace hx135_1 := (HB.out.cell (World.block_lt_of_cell? w _ hx135_1)).trans hx135_1
                                             replace hx135_2 := (HB.out.cell (World.block_lt_of_cell? w _ hx135_2)).trans hx135_2
                                             replace p135 := eq_true p135
                                             replace q135 := eq_true q135
                                             go_wp2
                                             go_meet
                                             case rel => exact ⟨_, (((wrap64 (x10_1 + 1)) == (l1.length : Int))), (by first | rfl | (simp; done) | (simp [*]; done)), H', ⟨by have := HK1.out; have := HJ11.out; have := HJ20.out; first | omega | exact Nat.le_refl _⟩, ⟨by (with_reducible repeat (first | apply Kd.R_alloc | apply Kd.R_drewN | apply Kd.R_drew)); exact HO_8.out⟩, ⟨by (with_reducible repeat (first | apply Kd.R_alloc | apply Kd.R_drewN | apply Kd.R_drew)); exact HO_9.out⟩, ⟨by repeat (first | (with_reducible first | exact HB.out | apply below_alloc | apply pw_below_drewN | apply below_drew1) | exact HB.out)⟩⟩
                                           · exact absurd rfl c37
                                         · rw [if_neg c36] at H
                                           have c36b0 : (x12_20 == ((rdOf ByteArray.empty l1 x10_1).size : Int)) = false := beq_eq_false_iff_ne.mpr c36
                                           have c36b1 : (x12_20 != ((rdOf ByteArray.empty l1 x10_1).size : Int)) = true := bne_iff_ne.mpr c36
                                           have H' := Aside0.mk H
                                           clear H
                                           have p134 : 0 ≤ (t133 : Int) := of_decide_eq_true (by first | (with_reducible assumption) | assumption)
                                           have q134 : t133 < (l0.length : Int) := of_decide_eq_true (by first | (with_reducible assumption) | assumption)
                                           obtain ⟨ad134, e134, hx134_0, hx134_1, hx134_2⟩ := at_T42 HR0.out t133 p134 q134
                                           (try rw [← Nbq34.out] at hx134_2)
                                           cases e134
                                           replace hx134_0 := (HB.out.cell (World.block_lt_of_cell? w _ hx134_0)).trans hx134_0
                                           replace hx134_1 := (HB.out.cell (World.block_lt_of_cell? w _ hx134_1)).trans hx134_1
                                           replace hx134_2 := (HB.out.cell (World.block_lt_of_cell? w _ hx134_2)).trans hx134_2
                                           replace p134 := eq_true p134
                                           replace q134 := eq_true q134
                                           go_wp2
                                           go_meet
                                           case rel => exact ⟨_, (false), (by first | rfl | (simp; done) | (simp [*]; done)), H', ⟨by have := HK1.out; have := HJ11.out; have := HJ20.out; first | omega | exact Nat.le_refl _⟩, ⟨by (with_reducible repeat (first | apply Kd.R_alloc | apply Kd.R_drewN | apply Kd.R_drew)); exact HO_8.out⟩, ⟨by (with_reducible repeat (first | apply Kd.R_alloc | apply Kd.R_drewN | apply Kd.R_drew)); exact HO_9.out⟩, ⟨by repeat (first | (with_reducible first | exact HB.out | apply below_alloc | apply pw_below_drewN | apply below_drew1) | exact HB.out)⟩⟩
                                       · replace c35 := Bool.eq_false_iff.mpr c35
                                         subst c35
                                         have H1 : (domesdayref13_Read.j4 kj20 l0 l1 x8_1 x9_1 x10_1 (rdOf ByteArray.empty l1 x10_1) x12_20 t133 true) = some (r1, r2, r3, r4) := by rw [if_neg (show ¬ (false = true) by decide)] at H; exact H
                                         clear H
                                         have H := H1
                                         clear H1
                                         have H' := Aside0.mk H
                                         clear H
                                         have p134 : 0 ≤ (t133 : Int) := of_decide_eq_true (by first | (with_reducible assumption) | assumption)
                                         have q134 : t133 < (l0.length : Int) := of_decide_eq_true (by first | (with_reducible assumption) | assumption)
                                         obtain ⟨ad134, e134, hx134_0, hx134_1, hx134_2⟩ := at_T42 HR0.out t133 p134 q134
                                         (try rw [← Nbq34.out] at hx134_2)
                                         cases e134
                                         replace hx134_0 := (HB.out.cell (World.block_lt_of_cell? w _ hx134_0)).trans hx134_0
                                         replace hx134_1 := (HB.out.cell (World.block_lt_of_cell? w _ hx134_1)).trans hx134_1
                                         replace hx134_2 := (HB.out.cell (World.block_lt_of_cell? w _ hx134_2)).trans hx134_2
                                         replace p134 := eq_true p134
                                         replace q134 := eq_true q134
                                         go_wp2
                                         go_meet
                                         case rel => exact ⟨_, (true), (by first | rfl | (simp; done) | (simp [*]; done)), H', ⟨by have := HK1.out; have := HJ11.out; have := HJ20.out; first | omega | exact Nat.le_refl _⟩, ⟨by (with_reducible repeat (first | apply Kd.R_alloc | apply Kd.R_drewN | apply Kd.R_drew)); exact HO_8.out⟩, ⟨by (with_reducible repeat (first | apply Kd.R_alloc | apply Kd.R_drewN | apply Kd.R_drew)); exact HO_9.out⟩, ⟨by repeat (first | (with_reducible first | exact HB.out | apply below_alloc | apply pw_below_drewN | apply below_drew1) | exact HB.out)⟩⟩
                                     · rw [if_neg c33] at H
                                       exact absurd H (by simp)
                                   · rw [if_neg c32] at H
                                     exact absurd H (by simp)
                                 · rw [if_neg c31] at H
                                   have c31b0 : decide (x12_20 < ((rdOf ByteArray.empty l1 x10_1).size : Int)) = false := decide_eq_false c31
                                   clear c31
                                   by_cases c38 : x12_20 = ((rdOf ByteArray.empty l1 x10_1).size : Int)
                                   · rw [if_pos c38] at H
                                     have c38b0 : (x12_20 == ((rdOf ByteArray.empty l1 x10_1).size : Int)) = true := beq_iff_eq.mpr c38
                                     have c38b1 : (x12_20 != ((rdOf ByteArray.empty l1 x10_1).size : Int)) = false := bne_eq_false_iff_eq.mpr c38
                                     clear c38
                                     by_cases c39 : 0 ≤ t133
                                     · rw [if_pos c39] at H
                                       have c39b0 : decide (0 ≤ t133) = true := decide_eq_true c39
                                       clear c39
                                       by_cases c40 : t133 < (l0.length : Int)
                                       · rw [if_pos c40] at H
                                         have c40b0 : decide (t133 < (l0.length : Int)) = true := decide_eq_true c40
                                         clear c40
                                         obtain ⟨bq41, hbq41⟩ : ∃ b_ : Bool, b_ = ((rd_T42 l0 t133).f2) := ⟨_, rfl⟩
                                         replace H : (if bq41 = true then (domesdayref13_Read.j4 kj20 l0 l1 x8_1 x9_1 x10_1 (rdOf ByteArray.empty l1 x10_1) x12_20 t133 ((wrap64 (x10_1 + 1)) == (l1.length : Int))) else (domesdayref13_Read.j4 kj20 l0 l1 x8_1 x9_1 x10_1 (rdOf ByteArray.empty l1 x10_1) x12_20 t133 false)) = some (r1, r2, r3, r4) := by rw [← hbq41] at H; exact H
                                         have Nbq41 := Aside0.mk hbq41
                                         clear hbq41
                                         by_cases c42 : bq41 = true
                                         · subst c42
                                           have H1 : (domesdayref13_Read.j4 kj20 l0 l1 x8_1 x9_1 x10_1 (rdOf ByteArray.empty l1 x10_1) x12_20 t133 ((wrap64 (x10_1 + 1)) == (l1.length : Int))) = some (r1, r2, r3, r4) := by rw [if_pos rfl] at H; exact H
                                           clear H
                                           have H := H1
                                           clear H1
                                           have H' := Aside0.mk H
                                           clear H
                                           have p136 : 0 ≤ (t133 : Int) := of_decide_eq_true (by first | (with_reducible assumption) | assumption)
                                           have q136 : t133 < (l0.length : Int) := of_decide_eq_true (by first | (with_reducible assumption) | assumption)
                                           obtain ⟨ad136, e136, hx136_0, hx136_1, hx136_2⟩ := at_T42 HR0.out t133 p136 q136
                                           (try rw [← Nbq41.out] at hx136_2)
                                           cases e136
                                           replace hx136_0 := (HB.out.cell (World.block_lt_of_cell? w _ hx136_0)).trans hx136_0
                                           replace hx136_1 := (HB.out.cell (World.block_lt_of_cell? w _ hx136_1)).trans hx136_1
                                           replace hx136_2 := (HB.out.cell (World.block_lt_of_cell? w _ hx136_2)).trans hx136_2
                                           replace p136 := eq_true p136
                                           replace q136 := eq_true q136
                                           go_wp2
                                           go_meet
                                           case rel => exact ⟨_, (((wrap64 (x10_1 + 1)) == (l1.length : Int))), (by first | rfl | (simp; done) | (simp [*]; done)), H', ⟨by have := HK1.out; have := HJ11.out; have := HJ20.out; first | omega | exact Nat.le_refl _⟩, ⟨by (with_reducible repeat (first | apply Kd.R_alloc | apply Kd.R_drewN | apply Kd.R_drew)); exact HO_8.out⟩, ⟨by (with_reducible repeat (first | apply Kd.R_alloc | apply Kd.R_drewN | apply Kd.R_drew)); exact HO_9.out⟩, ⟨by repeat (first | (with_reducible first | exact HB.out | apply below_alloc | apply pw_below_drewN | apply below_drew1) | exact HB.out)⟩⟩
                                         · replace c42 := Bool.eq_false_iff.mpr c42
                                           subst c42
                                           have H1 : (domesdayref13_Read.j4 kj20 l0 l1 x8_1 x9_1 x10_1 (rdOf ByteArray.empty l1 x10_1) x12_20 t133 false) = some (r1, r2, r3, r4) := by rw [if_neg (show ¬ (false = true) by decide)] at H; exact H
                                           clear H
                                           have H := H1
                                           clear H1
                                           have H' := Aside0.mk H
                                           clear H
                                           have p136 : 0 ≤ (t133 : Int) := of_decide_eq_true (by first | (with_reducible assumption) | assumption)
                                           have q136 : t133 < (l0.length : Int) := of_decide_eq_true (by first | (with_reducible assumption) | assumption)
                                           obtain ⟨ad136, e136, hx136_0, hx136_1, hx136_2⟩ := at_T42 HR0.out t133 p136 q136
                                           (try rw [← Nbq41.out] at hx136_2)
                                           cases e136
                                           replace hx136_0 := (HB.out.cell (World.block_lt_of_cell? w _ hx136_0)).trans hx136_0
                                           replace hx136_1 := (HB.out.cell (World.block_lt_of_cell? w _ hx136_1)).trans hx136_1
                                           replace hx136_2 := (HB.out.cell (World.block_lt_of_cell? w _ hx136_2)).trans hx136_2
                                           replace p136 := eq_true p136
                                           replace q136 := eq_true q136
                                           go_wp2
                                           go_meet
                                           case rel => exact ⟨_, (false), (by first | rfl | (simp; done) | (simp [*]; done)), H', ⟨by have := HK1.out; have := HJ11.out; have := HJ20.out; first | omega | exact Nat.le_refl _⟩, ⟨by (with_reducible repeat (first | apply Kd.R_alloc | apply Kd.R_drewN | apply Kd.R_drew)); exact HO_8.out⟩, ⟨by (with_reducible repeat (first | apply Kd.R_alloc | apply Kd.R_drewN | apply Kd.R_drew)); exact HO_9.out⟩, ⟨by repeat (first | (with_reducible first | exact HB.out | apply below_alloc | apply pw_below_drewN | apply below_drew1) | exact HB.out)⟩⟩
                                       · rw [if_neg c40] at H
                                         exact absurd H (by simp)
                                     · rw [if_neg c39] at H
                                       exact absurd H (by simp)
                                   · rw [if_neg c38] at H
                                     have c38b0 : (x12_20 == ((rdOf ByteArray.empty l1 x10_1).size : Int)) = false := beq_eq_false_iff_ne.mpr c38
                                     have c38b1 : (x12_20 != ((rdOf ByteArray.empty l1 x10_1).size : Int)) = true := bne_iff_ne.mpr c38
                                     have H' := Aside0.mk H
                                     clear H
                                     go_wp2
                                     go_meet
                                     case rel => exact ⟨_, (false), (by first | rfl | (simp; done) | (simp [*]; done)), H', ⟨by have := HK1.out; have := HJ11.out; have := HJ20.out; first | omega | exact Nat.le_refl _⟩, ⟨by (with_reducible repeat (first | apply Kd.R_alloc | apply Kd.R_drewN | apply Kd.R_drew)); exact HO_8.out⟩, ⟨by (with_reducible repeat (first | apply Kd.R_alloc | apply Kd.R_drewN | apply Kd.R_drew)); exact HO_9.out⟩, ⟨by repeat (first | (with_reducible first | exact HB.out | apply below_alloc | apply pw_below_drewN | apply below_drew1) | exact HB.out)⟩⟩
                             case rest =>
                               as_aux_lemma =>
                                clear HC29
                                try clear c1
                                try clear p1
                                try clear q1
                                try clear hx1
                                try clear qi1
                                try clear c2
                                try clear p2
                                try clear q2
                                try clear hx2
                                try clear c3
                                try clear c3b0
                                try clear q3
                                try clear c4
                                try clear c4b0
                                try clear q4
                                try clear c5
                                try clear c5b0
                                try clear c5b1
                                try clear p6
                                try clear c7
                                try clear c7b0
                                try clear c7b1
                                try clear c8
                                try clear c8b0
                                try clear c8b1
                                try clear c9
                                try clear c11
                                try clear p12
                                try clear q12
                                try clear hx12
                                try clear c13
                                try clear c13b0
                                try clear c13b1
                                try clear p13
                                try clear q13
                                try clear hx13
                                try clear c14
                                try clear c14b0
                                try clear c14b1
                                try clear p15
                                try clear q15
                                try clear hx15
                                try clear qi15
                                try clear c16
                                try clear c17
                                try clear c18
                                try clear c20
                                try clear c22
                                try clear c22b0
                                try clear c23
                                try clear c23b0
                                try clear p24
                                try clear q24
                                try clear hx24
                                try clear c25
                                try clear c25b0
                                try clear c25b1
                                try clear c26
                                try clear c26b0
                                try clear c26b1
                                try clear c27
                                try clear c27b0
                                try clear c27b1
                                try clear c30
                                try clear c30b0
                                try clear c31
                                try clear c31b0
                                try clear c32
                                try clear c32b0
                                try clear c33
                                try clear c33b0
                                try clear q34
                                try clear c35
                                try clear c36
                                try clear c36b0
                                try clear c36b1
                                try clear c37
                                try clear c38
                                try clear c38b0
                                try clear c38b1
                                try clear c39
                                try clear c39b0
                                try clear c40
                                try clear c40b0
                                try clear q41
                                try clear c42
                                try clear hx124_0
                                try clear hx134_0
                                try clear hx134_1
                                try clear hx134_2
                                try clear hx135_0
                                try clear hx135_1
                                try clear hx135_2
                                try clear hx136_0
                                try clear hx136_1
                                try clear hx136_2
                                try clear p1
                                try clear p12
                                try clear p124
                                try clear p134
                                try clear p135
                                try clear p136
                                try clear p15
                                try clear p2
                                try clear p24
                                try clear p6
                                try clear q1
                                try clear q12
                                try clear q124
                                try clear q134
                                try clear q135
                                try clear q136
                                try clear q15
                                try clear q2
                                try clear q24
                                obtain ⟨kq, x103_28, rfl, HA, HJ28, HO_8, HO_9, HB⟩ := hcut
                                cases kq with
                                | zero => exact absurd HA.out (by simp [domesdayref13_Read.j4])
                                | succ kj28 =>
                                  have H := HA.out
                                  clear HA
                                  simp only [domesdayref13_Read.j4] at H
                                  by_cases c43 : x103_28 = true
                                  · subst c43
                                    have H1 : (some (([] : List (S36)), ([] : List ByteArray), (rdOf ByteArray.empty l1 x10_1), false)) = some (r1, r2, r3, r4) := by rw [if_pos rfl] at H; exact H
                                    clear H
                                    have H := H1
                                    clear H1
                                    simp only [Option.some.injEq, Prod.mk.injEq] at H
                                    obtain ⟨rfl, rfl, rfl, rfl⟩ := H
                                    go_wp2
                                    refine bodyPost_ret (results_list (rs := [.tmp 4, .tmp 5, .tmp 6, .tmp 7]) rfl (by simp) (.tmp (.tmp (.tmp (.tmp .nil))))) rfl ?_
                                    exact ⟨_, _, by first | rfl | (simp [errW_none, errW_some] <;> rfl) | (simp [*, errW_none, errW_some] <;> rfl), by first | exact Kd.R_nil _ _ _ _ _ | exact Kd.N_nil _ _ _ _ _ | exact Kd.V_nil _ _ _ _ _ | exact Kd.Q_nil _ _ _ _ _ | exact Kd.S_nil _ _ _ _ _, by first | exact Kd.R_nil _ _ _ _ _ | exact Kd.N_nil _ _ _ _ _ | exact Kd.V_nil _ _ _ _ _ | exact Kd.Q_nil _ _ _ _ _ | exact Kd.S_nil _ _ _ _ _, by repeat (first | (with_reducible first | exact HB.out | apply below_alloc | apply pw_below_drewN | apply below_drew1) | exact HB.out)⟩
                                  · replace c43 := Bool.eq_false_iff.mpr c43
                                    subst c43
                                    have H1 : (if 0 ≤ t133 then (if t133 < (l0.length : Int) then (if x12_20 < ((rdOf ByteArray.empty l1 x10_1).size : Int) then (if 0 ≤ (wrap64 (x12_20 + 1)) then (if (wrap64 (x12_20 + 1)) ≤ ((rdOf ByteArray.empty l1 x10_1).size : Int) then (if x8_1.length < 5864062014805 then (domesdayref13_Read.l0 kj28 l0 l1 (x8_1 ++ [(⟨(rd_T42 l0 t133).f0, (rdOf ByteArray.empty l1 x10_1).extract ((wrap64 (x12_20 + 1)) : Int).toNat (rdOf ByteArray.empty l1 x10_1).size⟩ : S36)]) x9_1 (wrap64 (x10_1 + 1))) else (none)) else (none)) else (none)) else (if (rd_T42 l0 t133).f2 = true then (if 0 ≤ (wrap64 (x10_1 + 1)) then (if (wrap64 (x10_1 + 1)) < (l1.length : Int) then (if x8_1.length < 5864062014805 then (domesdayref13_Read.l0 kj28 l0 l1 (x8_1 ++ [(⟨(rd_T42 l0 t133).f0, rdOf ByteArray.empty l1 (wrap64 (x10_1 + 1))⟩ : S36)]) x9_1 (wrap64 ((wrap64 (x10_1 + 1)) + 1))) else (none)) else (none)) else (none)) else (if x8_1.length < 5864062014805 then (domesdayref13_Read.l0 kj28 l0 l1 (x8_1 ++ [(⟨(rd_T42 l0 t133).f0, (⟨#[]⟩ : ByteArray)⟩ : S36)]) x9_1 (wrap64 (x10_1 + 1))) else (none)))) else (none)) else (none)) = some (r1, r2, r3, r4) := by rw [if_neg (show ¬ (false = true) by decide)] at H; exact H
                                    clear H
                                    have H := H1
                                    clear H1
                                    by_cases c44 : 0 ≤ t133
                                    · rw [if_pos c44] at H
                                      have c44b0 : decide (0 ≤ t133) = true := decide_eq_true c44
                                      clear c44
                                      by_cases c45 : t133 < (l0.length : Int)
                                      · rw [if_pos c45] at H
                                        have c45b0 : decide (t133 < (l0.length : Int)) = true := decide_eq_true c45
                                        clear c45
                                        by_cases c46 : x12_20 < ((rdOf ByteArray.empty l1 x10_1).size : Int)
                                        · rw [if_pos c46] at H
                                          have c46b0 : decide (x12_20 < ((rdOf ByteArray.empty l1 x10_1).size : Int)) = true := decide_eq_true c46
                                          clear c46
                                          obtain ⟨ji47, hji47⟩ : ∃ j_ : Int, (wrap64 (x12_20 + 1)) = j_ := ⟨_, rfl⟩
                                          replace H : (if 0 ≤ (ji47) then (if (ji47) ≤ ((rdOf ByteArray.empty l1 x10_1).size : Int) then (if x8_1.length < 5864062014805 then (domesdayref13_Read.l0 kj28 l0 l1 (x8_1 ++ [(⟨(rd_T42 l0 t133).f0, (rdOf ByteArray.empty l1 x10_1).extract ((ji47) : Int).toNat (rdOf ByteArray.empty l1 x10_1).size⟩ : S36)]) x9_1 (wrap64 (x10_1 + 1))) else (none)) else (none)) else (none)) = some (r1, r2, r3, r4) := by first | (rw [hji47] at H; exact H) | (simp only [hji47] at H ⊢; exact H)
                                          have hji47w : (IntKind.i64.wrap (x12_20 + 1)) = ji47 := (i64_w _).trans hji47
                                          by_cases c48 : 0 ≤ (ji47)
                                          · rw [if_pos c48] at H
                                            have c48b0 := eq_true c48
                                            have c48b1 : decide (0 ≤ (ji47)) = true := decide_eq_true c48
                                            clear c48
                                            by_cases c49 : (ji47) ≤ ((rdOf ByteArray.empty l1 x10_1).size : Int)
                                            · rw [if_pos c49] at H
                                              have c49b0 := eq_true c49
                                              have c49b1 : decide ((ji47) ≤ ((rdOf ByteArray.empty l1 x10_1).size : Int)) = true := decide_eq_true c49
                                              clear c49
                                              by_cases c50 : x8_1.length < 5864062014805
                                              · rw [if_pos c50] at H
                                                have LMc50 := Aside0.mk c50
                                                clear c50
                                                obtain ⟨y139, hy139⟩ : ∃ y_ : List (S36), y_ = (x8_1 ++ [(⟨(rd_T42 l0 t133).f0, (rdOf ByteArray.empty l1 x10_1).extract ((ji47) : Int).toNat (rdOf ByteArray.empty l1 x10_1).size⟩ : S36)]) := ⟨_, rfl⟩
                                                replace H : (domesdayref13_Read.l0 kj28 l0 l1 y139 x9_1 (wrap64 (x10_1 + 1))) = some (r1, r2, r3, r4) := by first | (rw [hy139]; with_reducible exact H) | (have H2_ := (Option.bind_some _ _).symm.trans H; rw [hy139]; with_reducible exact H2_) | (have H2_ := (Option.bind_some _ _).symm.trans H; with_reducible exact H2_) | with_reducible exact H | (rw [hy139]; exact H) | exact H
                                                have Ny139 := Aside0.mk hy139
                                                clear hy139
                                                have H' := Aside0.mk H
                                                clear H
                                                have p137 : 0 ≤ (t133 : Int) := of_decide_eq_true (by first | (with_reducible assumption) | assumption)
                                                have q137 : t133 < (l0.length : Int) := of_decide_eq_true (by first | (with_reducible assumption) | assumption)
                                                obtain ⟨ad137, e137, hx137_0, hx137_1, hx137_2⟩ := at_T42 HR0.out t133 p137 q137
                                                cases e137
                                                replace hx137_0 := (HB.out.cell (World.block_lt_of_cell? w _ hx137_0)).trans hx137_0
                                                replace hx137_1 := (HB.out.cell (World.block_lt_of_cell? w _ hx137_1)).trans hx137_1
                                                replace hx137_2 := (HB.out.cell (World.block_lt_of_cell? w _ hx137_2)).trans hx137_2
                                                replace p137 := eq_true p137
                                                replace q137 := eq_true q137
                                                go_wp2_with (first | ((with_reducible refine gate_dst (N := 14) rfl ?_); (try (refine gate_guard (by rfl) ?_; dsimp only)); refine box_event ?hg (N := 14) ?hd (cs := #[.int .u8 0, .string (⟨#[]⟩ : ByteArray)]) (t := 36) ?hr ?_; (case hd => rfl); (case hg => rfl); (case hr => first | (go_simp; done) | (go_simp; rfl)); intro gb138 hg w51 hbox hb; have n0_ := Aside0.mk (Kd.R_below (Kd.R_elderB (by (with_reducible repeat (first | apply Kd.R_alloc | apply Kd.R_drewN | apply Kd.R_drew)); exact HO_8.out) gb138 (Nat.le_of_eq hg.symm)) hb); have n1_ := Aside0.mk (Kd.R_below (by (with_reducible repeat (first | apply Kd.R_alloc | apply Kd.R_drewN | apply Kd.R_drew)); exact HO_9.out) hb); have n2_ := Aside0.mk (below_step (by repeat (first | (with_reducible first | exact HB.out | apply below_alloc | apply pw_below_drewN | apply below_drew1) | exact HB.out)) hb); have n3_ := Aside0.mk (hbox); have n4_ := Aside0.mk ((by rw [hg]; exact (below_size (by repeat (first | (with_reducible first | exact HB.out | apply below_alloc | apply pw_below_drewN | apply below_drew1) | exact HB.out))) : w.heap.size ≤ gb138)); have n5_ := Aside0.mk ((by rw [hg]; exact (below_size (by repeat (first | (with_reducible first | exact HB.out | apply below_alloc | apply pw_below_drewN | apply below_drew1) | exact HB.out))) : w.heap.size ≤ gb138)); clear HO_8; clear HO_9; clear HB; have HO_8 := n0_; have HO_9 := n1_; have HB := n2_; have BK138 := n3_; have GW138 := n4_; have GE138 := n5_; clear n0_ n1_ n2_ n3_ n4_ n5_; clear hb hbox hg; have hcz52_0 : w51.cell? ⟨gb138, 0, none⟩ = some (.int .u8 0) := (blk_cell BK138.out 0).trans rfl; have hcz52_1 : w51.cell? ⟨gb138, 1, none⟩ = some (.string (⟨#[]⟩ : ByteArray)) := (blk_cell BK138.out 1).trans rfl; have hfz52_0 := blk_frozen BK138.out 0; have hfz52_1 := blk_frozen BK138.out 1; have hq52_1 : ∀ a_ b_ u_ : Value, (((w51.setCell ⟨gb138, 0, none⟩ a_).setCell ⟨gb138, 1, none⟩ b_).setCell ⟨gb138, 1, none⟩ u_).cell? ⟨gb138, 1, none⟩ = some u_ := fun a_ b_ u_ => (blk_cell (blk_set (blk_set (blk_set BK138.out 0 a_) 1 b_) 1 u_) 1).trans rfl) | ((with_reducible refine gate_builtin (b := .append) (xs := #[.tmp 132, .tmp 134]) rfl ?_); (try (refine gate_guard (by rfl) ?_; dsimp only)); at_builtin; refine Kd.R_append k36 (w0 := w) w.heap.size rfl (.tmp 132) (.tmp 134) 26 36 (.agg #[(.int .u8 0), (.string ⟨#[]⟩)]) 24 rfl Try.underlying26 info36 rfl (by decide) (by omega) u8 x8_1 (⟨(rd_T42 l0 t133).f0, (rdOf ByteArray.empty l1 x10_1).extract ((ji47) : Int).toNat (rdOf ByteArray.empty l1 x10_1).size⟩ : S36) [.int .u8 ((rd_T42 l0 t133).f0), .string ((rdOf ByteArray.empty l1 x10_1).extract ((ji47) : Int).toNat (rdOf ByteArray.empty l1 x10_1).size)] (fun k_ => k_ ≠ gb138) (fun _ => False) rfl (by first | (go_simp; done) | (go_simp; rfl)) ?aP (fun _ hk => hk.elim) ?aF ?aO ?aB ?aS ?aL ?_; (case aP => exact k36_mkM _ _ _ (⟨(rd_T42 l0 t133).f0, (rdOf ByteArray.empty l1 x10_1).extract ((ji47) : Int).toNat (rdOf ByteArray.empty l1 x10_1).size⟩ : S36)); (case aB => exact (by repeat (first | (with_reducible first | exact HB.out | apply below_alloc | apply pw_below_drewN | apply below_drew1 | refine below_set ?_ GE138.out) | exact HB.out))); (case aF => exact (fun k_ hk => Kd.freshB (g := gb138) (o := .cells #[.int .u8 ((rd_T42 l0 t133).f0), .string ((rdOf ByteArray.empty l1 x10_1).extract ((ji47) : Int).toNat (rdOf ByteArray.empty l1 x10_1).size)] 36 (0, 0)) (by (with_reducible repeat (first | refine blk_drewN ?_ _ | refine blk_drew ?_ | refine blk_alloc ?_ _)); refine blk_put (cs := #[.int .u8 ((rd_T42 l0 t133).f0), .string (⟨#[]⟩ : ByteArray)]) ?_ 1 _ (by first | rfl | (simp; done)); (with_reducible repeat (first | refine blk_drewN ?_ _ | refine blk_drew ?_ | refine blk_alloc ?_ _)); refine blk_put (cs := #[.int .u8 ((rd_T42 l0 t133).f0), .string (⟨#[]⟩ : ByteArray)]) ?_ 1 _ (by first | rfl | (simp; done)); (with_reducible repeat (first | refine blk_drewN ?_ _ | refine blk_drew ?_ | refine blk_alloc ?_ _)); refine blk_put (cs := #[.int .u8 0, .string (⟨#[]⟩ : ByteArray)]) ?_ 0 _ (by first | rfl | (simp; done)); (with_reducible repeat (first | refine blk_drewN ?_ _ | refine blk_drew ?_ | refine blk_alloc ?_ _)); exact BK138.out) k_ hk)); (case aO => exact (by (with_reducible repeat (first | apply Kd.R_alloc | apply Kd.R_drewN | apply Kd.R_drew)); exact Kd.R_mono (Kd.R_far (p := ⟨gb138, 1, none⟩) (Kd.R_far (p := ⟨gb138, 1, none⟩) (Kd.R_far (p := ⟨gb138, 0, none⟩) (Kd.R_mono HO_8.out (fun k_ hk => (⟨hk, hk.2⟩ : _ ∧ k_ ≠ gb138))) (fun _ hk => hk.2) (.int .u8 ((rd_T42 l0 t133).f0))) (fun _ hk => hk.2) (.string (⟨#[]⟩ : ByteArray))) (fun _ hk => hk.2) (.string ((rdOf ByteArray.empty l1 x10_1).extract ((ji47) : Int).toNat (rdOf ByteArray.empty l1 x10_1).size))) (fun _ hk => hk.1.2))); (case aS => exact (below_size (by repeat (first | (with_reducible first | exact HB.out | apply below_alloc | apply pw_below_drewN | apply below_drew1 | refine below_set ?_ GE138.out) | exact HB.out)))); (case aL => have := LMc50.out; omega); intro v140 w53 ho hb hg hat; rw [← Ny139.out] at ho; have n0_ := Aside0.mk (Kd.R_over' (by (with_reducible repeat (first | apply Kd.R_alloc | apply Kd.R_drewN | apply Kd.R_drew)); exact (Kd.R_mono (Kd.R_far (p := ⟨gb138, 1, none⟩) (Kd.R_far (p := ⟨gb138, 1, none⟩) (Kd.R_far (p := ⟨gb138, 0, none⟩) (Kd.R_types HO_9.out BK138.out (by decide)) (fun _ hk => hk.2) (.int .u8 ((rd_T42 l0 t133).f0))) (fun _ hk => hk.2) (.string (⟨#[]⟩ : ByteArray))) (fun _ hk => hk.2) (.string ((rdOf ByteArray.empty l1 x10_1).extract ((ji47) : Int).toNat (rdOf ByteArray.empty l1 x10_1).size))) (fun _ h_ => h_.1))) (Kd.R_typed (by (with_reducible repeat (first | apply Kd.R_alloc | apply Kd.R_drewN | apply Kd.R_drew)); exact (Kd.R_mono (Kd.R_far (p := ⟨gb138, 1, none⟩) (Kd.R_far (p := ⟨gb138, 1, none⟩) (Kd.R_far (p := ⟨gb138, 0, none⟩) (Kd.R_mono HO_8.out (fun k_ hk => (⟨hk, hk.2⟩ : _ ∧ k_ ≠ gb138))) (fun _ hk => hk.2) (.int .u8 ((rd_T42 l0 t133).f0))) (fun _ hk => hk.2) (.string (⟨#[]⟩ : ByteArray))) (fun _ hk => hk.2) (.string ((rdOf ByteArray.empty l1 x10_1).extract ((ji47) : Int).toNat (rdOf ByteArray.empty l1 x10_1).size))) (fun _ h_ => h_.1)))) (by decide) hg); have n1_ := Aside0.mk (blk_grown (g := gb138) (o := .cells #[.int .u8 ((rd_T42 l0 t133).f0), .string ((rdOf ByteArray.empty l1 x10_1).extract ((ji47) : Int).toNat (rdOf ByteArray.empty l1 x10_1).size)] 36 (0, 0)) (by (with_reducible repeat (first | refine blk_drewN ?_ _ | refine blk_drew ?_ | refine blk_alloc ?_ _)); refine blk_put (cs := #[.int .u8 ((rd_T42 l0 t133).f0), .string (⟨#[]⟩ : ByteArray)]) ?_ 1 _ (by first | rfl | (simp; done)); (with_reducible repeat (first | refine blk_drewN ?_ _ | refine blk_drew ?_ | refine blk_alloc ?_ _)); refine blk_put (cs := #[.int .u8 ((rd_T42 l0 t133).f0), .string (⟨#[]⟩ : ByteArray)]) ?_ 1 _ (by first | rfl | (simp; done)); (with_reducible repeat (first | refine blk_drewN ?_ _ | refine blk_drew ?_ | refine blk_alloc ?_ _)); refine blk_put (cs := #[.int .u8 0, .string (⟨#[]⟩ : ByteArray)]) ?_ 0 _ (by first | rfl | (simp; done)); (with_reducible repeat (first | refine blk_drewN ?_ _ | refine blk_drew ?_ | refine blk_alloc ?_ _)); exact BK138.out) hg (Kd.R_away HO_8.out (fun _ hk => hk.2))); have n2_ := Aside0.mk (hb); have n3_ := Aside0.mk (ho); clear HO_9; clear BK138; clear HB; clear HO_8; have HO_9 := n0_; have BK138 := n1_; have HB := n2_; have HO141 := n3_; clear n0_ n1_ n2_ n3_; clear ho hb hg hat))
                                                go_roundg kj28
                                                case measure => have := HK1.out; have := HJ11.out; have := HJ20.out; have := HJ28.out; omega
                                                case rel => exact ⟨(y139), (x9_1), (wrap64 (x10_1 + 1)), (by first | rfl | (simp; done) | (simp [*]; done)), H', ⟨by have := HK1.out; have := HJ11.out; have := HJ20.out; have := HJ28.out; omega⟩, ⟨by (with_reducible repeat (first | apply Kd.R_alloc | apply Kd.R_drewN | apply Kd.R_drew)); exact Kd.R_mono HO141.out (fun _ hk => trivial)⟩, ⟨by (with_reducible repeat (first | apply Kd.R_alloc | apply Kd.R_drewN | apply Kd.R_drew)); exact HO_9.out⟩, ⟨by repeat (first | (with_reducible first | exact HB.out | apply below_alloc | apply pw_below_drewN | apply below_drew1 | refine below_set ?_ GE138.out) | exact HB.out)⟩⟩
                                              · rw [if_neg c50] at H
                                                exact absurd H (by simp)
                                            · rw [if_neg c49] at H
                                              exact absurd H (by simp)
                                          · rw [if_neg c48] at H
                                            exact absurd H (by simp)
                                        · rw [if_neg c46] at H
                                          have c46b0 : decide (x12_20 < ((rdOf ByteArray.empty l1 x10_1).size : Int)) = false := decide_eq_false c46
                                          clear c46
                                          obtain ⟨bq54, hbq54⟩ : ∃ b_ : Bool, b_ = ((rd_T42 l0 t133).f2) := ⟨_, rfl⟩
                                          replace H : (if bq54 = true then (if 0 ≤ (wrap64 (x10_1 + 1)) then (if (wrap64 (x10_1 + 1)) < (l1.length : Int) then (if x8_1.length < 5864062014805 then (domesdayref13_Read.l0 kj28 l0 l1 (x8_1 ++ [(⟨(rd_T42 l0 t133).f0, rdOf ByteArray.empty l1 (wrap64 (x10_1 + 1))⟩ : S36)]) x9_1 (wrap64 ((wrap64 (x10_1 + 1)) + 1))) else (none)) else (none)) else (none)) else (if x8_1.length < 5864062014805 then (domesdayref13_Read.l0 kj28 l0 l1 (x8_1 ++ [(⟨(rd_T42 l0 t133).f0, (⟨#[]⟩ : ByteArray)⟩ : S36)]) x9_1 (wrap64 (x10_1 + 1))) else (none))) = some (r1, r2, r3, r4) := by rw [← hbq54] at H; exact H
                                          have Nbq54 := Aside0.mk hbq54
                                          clear hbq54
                                          by_cases c55 : bq54 = true
                                          · subst c55
                                            have H1 : (if 0 ≤ (wrap64 (x10_1 + 1)) then (if (wrap64 (x10_1 + 1)) < (l1.length : Int) then (if x8_1.length < 5864062014805 then (domesdayref13_Read.l0 kj28 l0 l1 (x8_1 ++ [(⟨(rd_T42 l0 t133).f0, rdOf ByteArray.empty l1 (wrap64 (x10_1 + 1))⟩ : S36)]) x9_1 (wrap64 ((wrap64 (x10_1 + 1)) + 1))) else (none)) else (none)) else (none)) = some (r1, r2, r3, r4) := by rw [if_pos rfl] at H; exact H
                                            clear H
                                            have H := H1
                                            clear H1
                                            obtain ⟨ji56, hji56⟩ : ∃ j_ : Int, (wrap64 (x10_1 + 1)) = j_ := ⟨_, rfl⟩
                                            replace H : (if 0 ≤ (ji56) then (if (ji56) < (l1.length : Int) then (if x8_1.length < 5864062014805 then (domesdayref13_Read.l0 kj28 l0 l1 (x8_1 ++ [(⟨(rd_T42 l0 t133).f0, rdOf ByteArray.empty l1 (ji56)⟩ : S36)]) x9_1 (wrap64 ((ji56) + 1))) else (none)) else (none)) else (none)) = some (r1, r2, r3, r4) := by first | (rw [hji56] at H; exact H) | (simp only [hji56] at H ⊢; exact H)
                                            have hji56w : (IntKind.i64.wrap (x10_1 + 1)) = ji56 := (i64_w _).trans hji56
                                            by_cases c57 : 0 ≤ (ji56)
                                            · rw [if_pos c57] at H
                                              have c57b0 : decide (0 ≤ (ji56)) = true := decide_eq_true c57
                                              clear c57
                                              by_cases c58 : (ji56) < (l1.length : Int)
                                              · rw [if_pos c58] at H
                                                have c58b0 : decide ((ji56) < (l1.length : Int)) = true := decide_eq_true c58
                                                clear c58
                                                by_cases c59 : x8_1.length < 5864062014805
                                                · rw [if_pos c59] at H
                                                  have LMc59 := Aside0.mk c59
                                                  clear c59
                                                  obtain ⟨y144, hy144⟩ : ∃ y_ : List (S36), y_ = (x8_1 ++ [(⟨(rd_T42 l0 t133).f0, rdOf ByteArray.empty l1 (ji56)⟩ : S36)]) := ⟨_, rfl⟩
                                                  replace H : (domesdayref13_Read.l0 kj28 l0 l1 y144 x9_1 (wrap64 ((ji56) + 1))) = some (r1, r2, r3, r4) := by first | (rw [hy144]; with_reducible exact H) | (have H2_ := (Option.bind_some _ _).symm.trans H; rw [hy144]; with_reducible exact H2_) | (have H2_ := (Option.bind_some _ _).symm.trans H; with_reducible exact H2_) | with_reducible exact H | (rw [hy144]; exact H) | exact H
                                                  have Ny144 := Aside0.mk hy144
                                                  clear hy144
                                                  have H' := Aside0.mk H
                                                  clear H
                                                  have p137 : 0 ≤ (t133 : Int) := of_decide_eq_true (by first | (with_reducible assumption) | assumption)
                                                  have q137 : t133 < (l0.length : Int) := of_decide_eq_true (by first | (with_reducible assumption) | assumption)
                                                  obtain ⟨ad137, e137, hx137_0, hx137_1, hx137_2⟩ := at_T42 HR0.out t133 p137 q137
                                                  (try rw [← Nbq54.out] at hx137_2)
                                                  cases e137
                                                  replace hx137_0 := (HB.out.cell (World.block_lt_of_cell? w _ hx137_0)).trans hx137_0
                                                  replace hx137_1 := (HB.out.cell (World.block_lt_of_cell? w _ hx137_1)).trans hx137_1
                                                  replace hx137_2 := (HB.out.cell (World.block_lt_of_cell? w _ hx137_2)).trans hx137_2
                                                  replace p137 := eq_true p137
                                                  replace q137 := eq_true q137
                                                  go_wp2_with (first | ((with_reducible refine gate_dst (N := 14) rfl ?_); (try (refine gate_guard (by rfl) ?_; dsimp only)); refine box_event ?hg (N := 14) ?hd (cs := #[.int .u8 0, .string (⟨#[]⟩ : ByteArray)]) (t := 36) ?hr ?_; (case hd => rfl); (case hg => rfl); (case hr => first | (go_simp; done) | (go_simp; rfl)); intro gb138 hg w60 hbox hb; have n0_ := Aside0.mk (Kd.R_below (Kd.R_elderB (by (with_reducible repeat (first | apply Kd.R_alloc | apply Kd.R_drewN | apply Kd.R_drew)); exact HO_8.out) gb138 (Nat.le_of_eq hg.symm)) hb); have n1_ := Aside0.mk (Kd.R_below (by (with_reducible repeat (first | apply Kd.R_alloc | apply Kd.R_drewN | apply Kd.R_drew)); exact HO_9.out) hb); have n2_ := Aside0.mk (below_step (by repeat (first | (with_reducible first | exact HB.out | apply below_alloc | apply pw_below_drewN | apply below_drew1) | exact HB.out)) hb); have n3_ := Aside0.mk (hbox); have n4_ := Aside0.mk ((by rw [hg]; exact (below_size (by repeat (first | (with_reducible first | exact HB.out | apply below_alloc | apply pw_below_drewN | apply below_drew1) | exact HB.out))) : w.heap.size ≤ gb138)); have n5_ := Aside0.mk ((by rw [hg]; exact (below_size (by repeat (first | (with_reducible first | exact HB.out | apply below_alloc | apply pw_below_drewN | apply below_drew1) | exact HB.out))) : w.heap.size ≤ gb138)); clear HO_8; clear HO_9; clear HB; have HO_8 := n0_; have HO_9 := n1_; have HB := n2_; have BK138 := n3_; have GW138 := n4_; have GE138 := n5_; clear n0_ n1_ n2_ n3_ n4_ n5_; clear hb hbox hg; have hcz61_0 : w60.cell? ⟨gb138, 0, none⟩ = some (.int .u8 0) := (blk_cell BK138.out 0).trans rfl; have hcz61_1 : w60.cell? ⟨gb138, 1, none⟩ = some (.string (⟨#[]⟩ : ByteArray)) := (blk_cell BK138.out 1).trans rfl; have hfz61_0 := blk_frozen BK138.out 0; have hfz61_1 := blk_frozen BK138.out 1; have hq61_1 : ∀ a_ b_ u_ : Value, (((w60.setCell ⟨gb138, 0, none⟩ a_).setCell ⟨gb138, 1, none⟩ b_).setCell ⟨gb138, 1, none⟩ u_).cell? ⟨gb138, 1, none⟩ = some u_ := fun a_ b_ u_ => (blk_cell (blk_set (blk_set (blk_set BK138.out 0 a_) 1 b_) 1 u_) 1).trans rfl; have p142 : 0 ≤ (t133 : Int) := of_decide_eq_true (by first | (with_reducible assumption) | assumption); have q142 : t133 < (l0.length : Int) := of_decide_eq_true (by first | (with_reducible assumption) | assumption); obtain ⟨ad142, e142, hx142_0, hx142_1, hx142_2⟩ := at_T42 HR0.out t133 p142 q142; (try rw [← Nbq54.out] at hx142_2); obtain rfl : ad137 = ad142 := (by injection e142); have hn142_0 : ad137.block ≠ gb138 := Nat.ne_of_lt (Nat.lt_of_lt_of_le (by have := World.block_lt_of_cell? _ _ hx142_0; first | rwa [add_block] at this | exact this) GW138.out); have hn142_1 : ad137.block ≠ gb138 := Nat.ne_of_lt (Nat.lt_of_lt_of_le (by have := World.block_lt_of_cell? _ _ hx142_0; first | rwa [add_block] at this | exact this) GW138.out); replace hx142_0 := (HB.out.cell (World.block_lt_of_cell? w _ hx142_0)).trans hx142_0; replace hx142_1 := (HB.out.cell (World.block_lt_of_cell? w _ hx142_1)).trans hx142_1; replace hx142_2 := (HB.out.cell (World.block_lt_of_cell? w _ hx142_2)).trans hx142_2; replace hx142_0 := (cell_far (p := ⟨gb138, 0, none⟩) (by first | (rw [add_block]; exact hn142_0) | (show (Addr.add _ _).block ≠ _; rw [add_block]; exact hn142_0) | exact hn142_0) (.int .u8 ((rd_T42 l0 t133).f0))).trans hx142_0; replace hx142_1 := (cell_far (p := ⟨gb138, 0, none⟩) (by first | (rw [add_block]; exact hn142_0) | (show (Addr.add _ _).block ≠ _; rw [add_block]; exact hn142_0) | exact hn142_0) (.int .u8 ((rd_T42 l0 t133).f0))).trans hx142_1; replace hx142_2 := (cell_far (p := ⟨gb138, 0, none⟩) (by first | (rw [add_block]; exact hn142_0) | (show (Addr.add _ _).block ≠ _; rw [add_block]; exact hn142_0) | exact hn142_0) (.int .u8 ((rd_T42 l0 t133).f0))).trans hx142_2; replace hx142_0 := (cell_far (p := ⟨gb138, 1, none⟩) (by first | (rw [add_block]; exact hn142_1) | (show (Addr.add _ _).block ≠ _; rw [add_block]; exact hn142_1) | exact hn142_1) (.string (⟨#[]⟩ : ByteArray))).trans hx142_0; replace hx142_1 := (cell_far (p := ⟨gb138, 1, none⟩) (by first | (rw [add_block]; exact hn142_1) | (show (Addr.add _ _).block ≠ _; rw [add_block]; exact hn142_1) | exact hn142_1) (.string (⟨#[]⟩ : ByteArray))).trans hx142_1; replace hx142_2 := (cell_far (p := ⟨gb138, 1, none⟩) (by first | (rw [add_block]; exact hn142_1) | (show (Addr.add _ _).block ≠ _; rw [add_block]; exact hn142_1) | exact hn142_1) (.string (⟨#[]⟩ : ByteArray))).trans hx142_2; clear hn142_0; clear hn142_1; replace p142 := eq_true p142; replace q142 := eq_true q142; have p143 : 0 ≤ ((ji56) : Int) := of_decide_eq_true (by first | (with_reducible assumption) | assumption); have q143 : (ji56) < (l1.length : Int) := of_decide_eq_true (by first | (with_reducible assumption) | assumption); obtain ⟨ad143, e143, hx143_0⟩ := Kd.at_string HR1.out (ji56) p143 q143; obtain rfl : ad124 = ad143 := (by injection e143); have hn143_0 : ad124.block ≠ gb138 := Nat.ne_of_lt (Nat.lt_of_lt_of_le (by have := World.block_lt_of_cell? _ _ hx143_0; first | rwa [add_block] at this | exact this) GW138.out); have hn143_1 : ad124.block ≠ gb138 := Nat.ne_of_lt (Nat.lt_of_lt_of_le (by have := World.block_lt_of_cell? _ _ hx143_0; first | rwa [add_block] at this | exact this) GW138.out); replace hx143_0 := (HB.out.cell (World.block_lt_of_cell? w _ hx143_0)).trans hx143_0; replace hx143_0 := (cell_far (p := ⟨gb138, 0, none⟩) (by first | (rw [add_block]; exact hn143_0) | (show (Addr.add _ _).block ≠ _; rw [add_block]; exact hn143_0) | exact hn143_0) (.int .u8 ((rd_T42 l0 t133).f0))).trans hx143_0; replace hx143_0 := (cell_far (p := ⟨gb138, 1, none⟩) (by first | (rw [add_block]; exact hn143_1) | (show (Addr.add _ _).block ≠ _; rw [add_block]; exact hn143_1) | exact hn143_1) (.string (⟨#[]⟩ : ByteArray))).trans hx143_0; clear hn143_0; clear hn143_1; replace p143 := eq_true p143; replace q143 := eq_true q143) | ((with_reducible refine gate_builtin (b := .append) (xs := #[.tmp 132, .tmp 134]) rfl ?_); (try (refine gate_guard (by rfl) ?_; dsimp only)); at_builtin; refine Kd.R_append k36 (w0 := w) w.heap.size rfl (.tmp 132) (.tmp 134) 26 36 (.agg #[(.int .u8 0), (.string ⟨#[]⟩)]) 24 rfl Try.underlying26 info36 rfl (by decide) (by omega) u8 x8_1 (⟨(rd_T42 l0 t133).f0, rdOf ByteArray.empty l1 (ji56)⟩ : S36) [.int .u8 ((rd_T42 l0 t133).f0), .string (rdOf ByteArray.empty l1 (ji56))] (fun k_ => k_ ≠ gb138) (fun _ => False) rfl (by first | (go_simp; done) | (go_simp; rfl)) ?aP (fun _ hk => hk.elim) ?aF ?aO ?aB ?aS ?aL ?_; (case aP => exact k36_mkM _ _ _ (⟨(rd_T42 l0 t133).f0, rdOf ByteArray.empty l1 (ji56)⟩ : S36)); (case aB => exact (by repeat (first | (with_reducible first | exact HB.out | apply below_alloc | apply pw_below_drewN | apply below_drew1 | refine below_set ?_ GE138.out) | exact HB.out))); (case aF => exact (fun k_ hk => Kd.freshB (g := gb138) (o := .cells #[.int .u8 ((rd_T42 l0 t133).f0), .string (rdOf ByteArray.empty l1 (ji56))] 36 (0, 0)) (by (with_reducible repeat (first | refine blk_drewN ?_ _ | refine blk_drew ?_ | refine blk_alloc ?_ _)); refine blk_put (cs := #[.int .u8 ((rd_T42 l0 t133).f0), .string (⟨#[]⟩ : ByteArray)]) ?_ 1 _ (by first | rfl | (simp; done)); (with_reducible repeat (first | refine blk_drewN ?_ _ | refine blk_drew ?_ | refine blk_alloc ?_ _)); refine blk_put (cs := #[.int .u8 ((rd_T42 l0 t133).f0), .string (⟨#[]⟩ : ByteArray)]) ?_ 1 _ (by first | rfl | (simp; done)); (with_reducible repeat (first | refine blk_drewN ?_ _ | refine blk_drew ?_ | refine blk_alloc ?_ _)); refine blk_put (cs := #[.int .u8 0, .string (⟨#[]⟩ : ByteArray)]) ?_ 0 _ (by first | rfl | (simp; done)); (with_reducible repeat (first | refine blk_drewN ?_ _ | refine blk_drew ?_ | refine blk_alloc ?_ _)); exact BK138.out) k_ hk)); (case aO => exact (by (with_reducible repeat (first | apply Kd.R_alloc | apply Kd.R_drewN | apply Kd.R_drew)); exact Kd.R_mono (Kd.R_far (p := ⟨gb138, 1, none⟩) (Kd.R_far (p := ⟨gb138, 1, none⟩) (Kd.R_far (p := ⟨gb138, 0, none⟩) (Kd.R_mono HO_8.out (fun k_ hk => (⟨hk, hk.2⟩ : _ ∧ k_ ≠ gb138))) (fun _ hk => hk.2) (.int .u8 ((rd_T42 l0 t133).f0))) (fun _ hk => hk.2) (.string (⟨#[]⟩ : ByteArray))) (fun _ hk => hk.2) (.string (rdOf ByteArray.empty l1 (ji56)))) (fun _ hk => hk.1.2))); (case aS => exact (below_size (by repeat (first | (with_reducible first | exact HB.out | apply below_alloc | apply pw_below_drewN | apply below_drew1 | refine below_set ?_ GE138.out) | exact HB.out)))); (case aL => have := LMc59.out; omega); intro v145 w62 ho hb hg hat; rw [← Ny144.out] at ho; have n0_ := Aside0.mk (Kd.R_over' (by (with_reducible repeat (first | apply Kd.R_alloc | apply Kd.R_drewN | apply Kd.R_drew)); exact (Kd.R_mono (Kd.R_far (p := ⟨gb138, 1, none⟩) (Kd.R_far (p := ⟨gb138, 1, none⟩) (Kd.R_far (p := ⟨gb138, 0, none⟩) (Kd.R_types HO_9.out BK138.out (by decide)) (fun _ hk => hk.2) (.int .u8 ((rd_T42 l0 t133).f0))) (fun _ hk => hk.2) (.string (⟨#[]⟩ : ByteArray))) (fun _ hk => hk.2) (.string (rdOf ByteArray.empty l1 (ji56)))) (fun _ h_ => h_.1))) (Kd.R_typed (by (with_reducible repeat (first | apply Kd.R_alloc | apply Kd.R_drewN | apply Kd.R_drew)); exact (Kd.R_mono (Kd.R_far (p := ⟨gb138, 1, none⟩) (Kd.R_far (p := ⟨gb138, 1, none⟩) (Kd.R_far (p := ⟨gb138, 0, none⟩) (Kd.R_mono HO_8.out (fun k_ hk => (⟨hk, hk.2⟩ : _ ∧ k_ ≠ gb138))) (fun _ hk => hk.2) (.int .u8 ((rd_T42 l0 t133).f0))) (fun _ hk => hk.2) (.string (⟨#[]⟩ : ByteArray))) (fun _ hk => hk.2) (.string (rdOf ByteArray.empty l1 (ji56)))) (fun _ h_ => h_.1)))) (by decide) hg); have n1_ := Aside0.mk (blk_grown (g := gb138) (o := .cells #[.int .u8 ((rd_T42 l0 t133).f0), .string (rdOf ByteArray.empty l1 (ji56))] 36 (0, 0)) (by (with_reducible repeat (first | refine blk_drewN ?_ _ | refine blk_drew ?_ | refine blk_alloc ?_ _)); refine blk_put (cs := #[.int .u8 ((rd_T42 l0 t133).f0), .string (⟨#[]⟩ : ByteArray)]) ?_ 1 _ (by first | rfl | (simp; done)); (with_reducible repeat (first | refine blk_drewN ?_ _ | refine blk_drew ?_ | refine blk_alloc ?_ _)); refine blk_put (cs := #[.int .u8 ((rd_T42 l0 t133).f0), .string (⟨#[]⟩ : ByteArray)]) ?_ 1 _ (by first | rfl | (simp; done)); (with_reducible repeat (first | refine blk_drewN ?_ _ | refine blk_drew ?_ | refine blk_alloc ?_ _)); refine blk_put (cs := #[.int .u8 0, .string (⟨#[]⟩ : ByteArray)]) ?_ 0 _ (by first | rfl | (simp; done)); (with_reducible repeat (first | refine blk_drewN ?_ _ | refine blk_drew ?_ | refine blk_alloc ?_ _)); exact BK138.out) hg (Kd.R_away HO_8.out (fun _ hk => hk.2))); have n2_ := Aside0.mk (hb); have n3_ := Aside0.mk (ho); clear HO_9; clear BK138; clear HB; clear HO_8; have HO_9 := n0_; have BK138 := n1_; have HB := n2_; have HO146 := n3_; clear n0_ n1_ n2_ n3_; clear ho hb hg hat))
                                                  go_roundg kj28
                                                  case measure => have := HK1.out; have := HJ11.out; have := HJ20.out; have := HJ28.out; omega
                                                  case rel => exact ⟨(y144), (x9_1), (wrap64 ((ji56) + 1)), (by first | rfl | (simp; done) | (simp only [← hji56] <;> (first | rfl | simp)) | (simp [*]; done)), H', ⟨by have := HK1.out; have := HJ11.out; have := HJ20.out; have := HJ28.out; omega⟩, ⟨by (with_reducible repeat (first | apply Kd.R_alloc | apply Kd.R_drewN | apply Kd.R_drew)); exact Kd.R_mono HO146.out (fun _ hk => trivial)⟩, ⟨by (with_reducible repeat (first | apply Kd.R_alloc | apply Kd.R_drewN | apply Kd.R_drew)); exact HO_9.out⟩, ⟨by repeat (first | (with_reducible first | exact HB.out | apply below_alloc | apply pw_below_drewN | apply below_drew1 | refine below_set ?_ GE138.out) | exact HB.out)⟩⟩
                                                · rw [if_neg c59] at H
                                                  exact absurd H (by simp)
                                              · rw [if_neg c58] at H
                                                exact absurd H (by simp)
                                            · rw [if_neg c57] at H
                                              exact absurd H (by simp)
                                          · replace c55 := Bool.eq_false_iff.mpr c55
                                            subst c55
                                            have H1 : (if x8_1.length < 5864062014805 then (domesdayref13_Read.l0 kj28 l0 l1 (x8_1 ++ [(⟨(rd_T42 l0 t133).f0, (⟨#[]⟩ : ByteArray)⟩ : S36)]) x9_1 (wrap64 (x10_1 + 1))) else (none)) = some (r1, r2, r3, r4) := by rw [if_neg (show ¬ (false = true) by decide)] at H; exact H
                                            clear H
                                            have H := H1
                                            clear H1
                                            by_cases c63 : x8_1.length < 5864062014805
                                            · rw [if_pos c63] at H
                                              have LMc63 := Aside0.mk c63
                                              clear c63
                                              obtain ⟨y147, hy147⟩ : ∃ y_ : List (S36), y_ = (x8_1 ++ [(⟨(rd_T42 l0 t133).f0, (⟨#[]⟩ : ByteArray)⟩ : S36)]) := ⟨_, rfl⟩
                                              replace H : (domesdayref13_Read.l0 kj28 l0 l1 y147 x9_1 (wrap64 (x10_1 + 1))) = some (r1, r2, r3, r4) := by first | (rw [hy147]; with_reducible exact H) | (have H2_ := (Option.bind_some _ _).symm.trans H; rw [hy147]; with_reducible exact H2_) | (have H2_ := (Option.bind_some _ _).symm.trans H; with_reducible exact H2_) | with_reducible exact H | (rw [hy147]; exact H) | exact H
                                              have Ny147 := Aside0.mk hy147
                                              clear hy147
                                              have H' := Aside0.mk H
                                              clear H
                                              have p137 : 0 ≤ (t133 : Int) := of_decide_eq_true (by first | (with_reducible assumption) | assumption)
                                              have q137 : t133 < (l0.length : Int) := of_decide_eq_true (by first | (with_reducible assumption) | assumption)
                                              obtain ⟨ad137, e137, hx137_0, hx137_1, hx137_2⟩ := at_T42 HR0.out t133 p137 q137
                                              (try rw [← Nbq54.out] at hx137_2)
                                              cases e137
                                              replace hx137_0 := (HB.out.cell (World.block_lt_of_cell? w _ hx137_0)).trans hx137_0
                                              replace hx137_1 := (HB.out.cell (World.block_lt_of_cell? w _ hx137_1)).trans hx137_1
                                              replace hx137_2 := (HB.out.cell (World.block_lt_of_cell? w _ hx137_2)).trans hx137_2
                                              replace p137 := eq_true p137
                                              replace q137 := eq_true q137
                                              go_wp2_with (first | ((with_reducible refine gate_dst (N := 14) rfl ?_); (try (refine gate_guard (by rfl) ?_; dsimp only)); refine box_event ?hg (N := 14) ?hd (cs := #[.int .u8 0, .string (⟨#[]⟩ : ByteArray)]) (t := 36) ?hr ?_; (case hd => rfl); (case hg => rfl); (case hr => first | (go_simp; done) | (go_simp; rfl)); intro gb138 hg w64 hbox hb; have n0_ := Aside0.mk (Kd.R_below (Kd.R_elderB (by (with_reducible repeat (first | apply Kd.R_alloc | apply Kd.R_drewN | apply Kd.R_drew)); exact HO_8.out) gb138 (Nat.le_of_eq hg.symm)) hb); have n1_ := Aside0.mk (Kd.R_below (by (with_reducible repeat (first | apply Kd.R_alloc | apply Kd.R_drewN | apply Kd.R_drew)); exact HO_9.out) hb); have n2_ := Aside0.mk (below_step (by repeat (first | (with_reducible first | exact HB.out | apply below_alloc | apply pw_below_drewN | apply below_drew1) | exact HB.out)) hb); have n3_ := Aside0.mk (hbox); have n4_ := Aside0.mk ((by rw [hg]; exact (below_size (by repeat (first | (with_reducible first | exact HB.out | apply below_alloc | apply pw_below_drewN | apply below_drew1) | exact HB.out))) : w.heap.size ≤ gb138)); have n5_ := Aside0.mk ((by rw [hg]; exact (below_size (by repeat (first | (with_reducible first | exact HB.out | apply below_alloc | apply pw_below_drewN | apply below_drew1) | exact HB.out))) : w.heap.size ≤ gb138)); clear HO_8; clear HO_9; clear HB; have HO_8 := n0_; have HO_9 := n1_; have HB := n2_; have BK138 := n3_; have GW138 := n4_; have GE138 := n5_; clear n0_ n1_ n2_ n3_ n4_ n5_; clear hb hbox hg; have hcz65_0 : w64.cell? ⟨gb138, 0, none⟩ = some (.int .u8 0) := (blk_cell BK138.out 0).trans rfl; have hcz65_1 : w64.cell? ⟨gb138, 1, none⟩ = some (.string (⟨#[]⟩ : ByteArray)) := (blk_cell BK138.out 1).trans rfl; have hfz65_0 := blk_frozen BK138.out 0; have hfz65_1 := blk_frozen BK138.out 1; have hq65_1 : ∀ a_ b_ u_ : Value, (((w64.setCell ⟨gb138, 0, none⟩ a_).setCell ⟨gb138, 1, none⟩ b_).setCell ⟨gb138, 1, none⟩ u_).cell? ⟨gb138, 1, none⟩ = some u_ := fun a_ b_ u_ => (blk_cell (blk_set (blk_set (blk_set BK138.out 0 a_) 1 b_) 1 u_) 1).trans rfl; have p142 : 0 ≤ (t133 : Int) := of_decide_eq_true (by first | (with_reducible assumption) | assumption); have q142 : t133 < (l0.length : Int) := of_decide_eq_true (by first | (with_reducible assumption) | assumption); obtain ⟨ad142, e142, hx142_0, hx142_1, hx142_2⟩ := at_T42 HR0.out t133 p142 q142; (try rw [← Nbq54.out] at hx142_2); obtain rfl : ad137 = ad142 := (by injection e142); have hn142_0 : ad137.block ≠ gb138 := Nat.ne_of_lt (Nat.lt_of_lt_of_le (by have := World.block_lt_of_cell? _ _ hx142_0; first | rwa [add_block] at this | exact this) GW138.out); have hn142_1 : ad137.block ≠ gb138 := Nat.ne_of_lt (Nat.lt_of_lt_of_le (by have := World.block_lt_of_cell? _ _ hx142_0; first | rwa [add_block] at this | exact this) GW138.out); replace hx142_0 := (HB.out.cell (World.block_lt_of_cell? w _ hx142_0)).trans hx142_0; replace hx142_1 := (HB.out.cell (World.block_lt_of_cell? w _ hx142_1)).trans hx142_1; replace hx142_2 := (HB.out.cell (World.block_lt_of_cell? w _ hx142_2)).trans hx142_2; replace hx142_0 := (cell_far (p := ⟨gb138, 0, none⟩) (by first | (rw [add_block]; exact hn142_0) | (show (Addr.add _ _).block ≠ _; rw [add_block]; exact hn142_0) | exact hn142_0) (.int .u8 ((rd_T42 l0 t133).f0))).trans hx142_0; replace hx142_1 := (cell_far (p := ⟨gb138, 0, none⟩) (by first | (rw [add_block]; exact hn142_0) | (show (Addr.add _ _).block ≠ _; rw [add_block]; exact hn142_0) | exact hn142_0) (.int .u8 ((rd_T42 l0 t133).f0))).trans hx142_1; replace hx142_2 := (cell_far (p := ⟨gb138, 0, none⟩) (by first | (rw [add_block]; exact hn142_0) | (show (Addr.add _ _).block ≠ _; rw [add_block]; exact hn142_0) | exact hn142_0) (.int .u8 ((rd_T42 l0 t133).f0))).trans hx142_2; replace hx142_0 := (cell_far (p := ⟨gb138, 1, none⟩) (by first | (rw [add_block]; exact hn142_1) | (show (Addr.add _ _).block ≠ _; rw [add_block]; exact hn142_1) | exact hn142_1) (.string (⟨#[]⟩ : ByteArray))).trans hx142_0; replace hx142_1 := (cell_far (p := ⟨gb138, 1, none⟩) (by first | (rw [add_block]; exact hn142_1) | (show (Addr.add _ _).block ≠ _; rw [add_block]; exact hn142_1) | exact hn142_1) (.string (⟨#[]⟩ : ByteArray))).trans hx142_1; replace hx142_2 := (cell_far (p := ⟨gb138, 1, none⟩) (by first | (rw [add_block]; exact hn142_1) | (show (Addr.add _ _).block ≠ _; rw [add_block]; exact hn142_1) | exact hn142_1) (.string (⟨#[]⟩ : ByteArray))).trans hx142_2; clear hn142_0; clear hn142_1; replace p142 := eq_true p142; replace q142 := eq_true q142) | ((with_reducible refine gate_builtin (b := .append) (xs := #[.tmp 132, .tmp 134]) rfl ?_); (try (refine gate_guard (by rfl) ?_; dsimp only)); at_builtin; refine Kd.R_append k36 (w0 := w) w.heap.size rfl (.tmp 132) (.tmp 134) 26 36 (.agg #[(.int .u8 0), (.string ⟨#[]⟩)]) 24 rfl Try.underlying26 info36 rfl (by decide) (by omega) u8 x8_1 (⟨(rd_T42 l0 t133).f0, (⟨#[]⟩ : ByteArray)⟩ : S36) [.int .u8 ((rd_T42 l0 t133).f0), .string (⟨#[]⟩ : ByteArray)] (fun k_ => k_ ≠ gb138) (fun _ => False) rfl (by first | (go_simp; done) | (go_simp; rfl)) ?aP (fun _ hk => hk.elim) ?aF ?aO ?aB ?aS ?aL ?_; (case aP => exact k36_mkM _ _ _ (⟨(rd_T42 l0 t133).f0, (⟨#[]⟩ : ByteArray)⟩ : S36)); (case aB => exact (by repeat (first | (with_reducible first | exact HB.out | apply below_alloc | apply pw_below_drewN | apply below_drew1 | refine below_set ?_ GE138.out) | exact HB.out))); (case aF => exact (fun k_ hk => Kd.freshB (g := gb138) (o := .cells #[.int .u8 ((rd_T42 l0 t133).f0), .string (⟨#[]⟩ : ByteArray)] 36 (0, 0)) (by (with_reducible repeat (first | refine blk_drewN ?_ _ | refine blk_drew ?_ | refine blk_alloc ?_ _)); refine blk_put (cs := #[.int .u8 ((rd_T42 l0 t133).f0), .string (⟨#[]⟩ : ByteArray)]) ?_ 1 _ (by first | rfl | (simp; done)); (with_reducible repeat (first | refine blk_drewN ?_ _ | refine blk_drew ?_ | refine blk_alloc ?_ _)); refine blk_put (cs := #[.int .u8 0, .string (⟨#[]⟩ : ByteArray)]) ?_ 0 _ (by first | rfl | (simp; done)); (with_reducible repeat (first | refine blk_drewN ?_ _ | refine blk_drew ?_ | refine blk_alloc ?_ _)); exact BK138.out) k_ hk)); (case aO => exact (by (with_reducible repeat (first | apply Kd.R_alloc | apply Kd.R_drewN | apply Kd.R_drew)); exact Kd.R_mono (Kd.R_far (p := ⟨gb138, 1, none⟩) (Kd.R_far (p := ⟨gb138, 0, none⟩) (Kd.R_mono HO_8.out (fun k_ hk => (⟨hk, hk.2⟩ : _ ∧ k_ ≠ gb138))) (fun _ hk => hk.2) (.int .u8 ((rd_T42 l0 t133).f0))) (fun _ hk => hk.2) (.string (⟨#[]⟩ : ByteArray))) (fun _ hk => hk.1.2))); (case aS => exact (below_size (by repeat (first | (with_reducible first | exact HB.out | apply below_alloc | apply pw_below_drewN | apply below_drew1 | refine below_set ?_ GE138.out) | exact HB.out)))); (case aL => have := LMc63.out; omega); intro v148 w66 ho hb hg hat; rw [← Ny147.out] at ho; have n0_ := Aside0.mk (Kd.R_over' (by (with_reducible repeat (first | apply Kd.R_alloc | apply Kd.R_drewN | apply Kd.R_drew)); exact (Kd.R_mono (Kd.R_far (p := ⟨gb138, 1, none⟩) (Kd.R_far (p := ⟨gb138, 0, none⟩) (Kd.R_types HO_9.out BK138.out (by decide)) (fun _ hk => hk.2) (.int .u8 ((rd_T42 l0 t133).f0))) (fun _ hk => hk.2) (.string (⟨#[]⟩ : ByteArray))) (fun _ h_ => h_.1))) (Kd.R_typed (by (with_reducible repeat (first | apply Kd.R_alloc | apply Kd.R_drewN | apply Kd.R_drew)); exact (Kd.R_mono (Kd.R_far (p := ⟨gb138, 1, none⟩) (Kd.R_far (p := ⟨gb138, 0, none⟩) (Kd.R_mono HO_8.out (fun k_ hk => (⟨hk, hk.2⟩ : _ ∧ k_ ≠ gb138))) (fun _ hk => hk.2) (.int .u8 ((rd_T42 l0 t133).f0))) (fun _ hk => hk.2) (.string (⟨#[]⟩ : ByteArray))) (fun _ h_ => h_.1)))) (by decide) hg); have n1_ := Aside0.mk (blk_grown (g := gb138) (o := .cells #[.int .u8 ((rd_T42 l0 t133).f0), .string (⟨#[]⟩ : ByteArray)] 36 (0, 0)) (by (with_reducible repeat (first | refine blk_drewN ?_ _ | refine blk_drew ?_ | refine blk_alloc ?_ _)); refine blk_put (cs := #[.int .u8 ((rd_T42 l0 t133).f0), .string (⟨#[]⟩ : ByteArray)]) ?_ 1 _ (by first | rfl | (simp; done)); (with_reducible repeat (first | refine blk_drewN ?_ _ | refine blk_drew ?_ | refine blk_alloc ?_ _)); refine blk_put (cs := #[.int .u8 0, .string (⟨#[]⟩ : ByteArray)]) ?_ 0 _ (by first | rfl | (simp; done)); (with_reducible repeat (first | refine blk_drewN ?_ _ | refine blk_drew ?_ | refine blk_alloc ?_ _)); exact BK138.out) hg (Kd.R_away HO_8.out (fun _ hk => hk.2))); have n2_ := Aside0.mk (hb); have n3_ := Aside0.mk (ho); clear HO_9; clear BK138; clear HB; clear HO_8; have HO_9 := n0_; have BK138 := n1_; have HB := n2_; have HO149 := n3_; clear n0_ n1_ n2_ n3_; clear ho hb hg hat))
                                              go_roundg kj28
                                              case measure => have := HK1.out; have := HJ11.out; have := HJ20.out; have := HJ28.out; omega
                                              case rel => exact ⟨(y147), (x9_1), (wrap64 (x10_1 + 1)), (by first | rfl | (simp; done) | (simp [*]; done)), H', ⟨by have := HK1.out; have := HJ11.out; have := HJ20.out; have := HJ28.out; omega⟩, ⟨by (with_reducible repeat (first | apply Kd.R_alloc | apply Kd.R_drewN | apply Kd.R_drew)); exact Kd.R_mono HO149.out (fun _ hk => trivial)⟩, ⟨by (with_reducible repeat (first | apply Kd.R_alloc | apply Kd.R_drewN | apply Kd.R_drew)); exact HO_9.out⟩, ⟨by repeat (first | (with_reducible first | exact HB.out | apply below_alloc | apply pw_below_drewN | apply below_drew1 | refine below_set ?_ GE138.out) | exact HB.out)⟩⟩
                                            · rw [if_neg c63] at H
                                              exact absurd H (by simp)
                                      · rw [if_neg c45] at H
                                        exact absurd H (by simp)
                                    · rw [if_neg c44] at H
                                      exact absurd H (by simp)
                           · rw [if_neg c27] at H
                             exact absurd H (by simp)
                         · rw [if_neg c26] at H
                           exact absurd H (by simp)
                  · as_aux_lemma =>
                     replace c20 := Bool.eq_false_iff.mpr c20
                     subst c20
                     have H1 : (domesdayref13_Read.l2 kj11 l0 l1 x8_1 x9_1 x10_1 (rdOf ByteArray.empty l1 x10_1) 1) = some (r1, r2, r3, r4) := by rw [if_neg (show ¬ (false = true) by decide)] at H; exact H
                     clear H
                     have H := H1
                     clear H1
                     have H' := Aside0.mk H
                     clear H
                     go_wp2_with (first | ((with_reducible refine gate_callee (f := 17) rfl ?_); refine goesL_ (some 50) rfl rfl Try.func17 (by kernel_rfl) rfl #[.string (rdOf ByteArray.empty l1 x10_1), .string (⟨#[45, 45]⟩ : ByteArray)] rfl (by (try simp only [List.map_toArray, List.map_cons, List.map_nil]); first | done | rfl | (simp only [List.length_drop, List.length_take]; rfl)) ?_; (with_reducible refine (domesdayref13_begins.calls (rdOf ByteArray.empty l1 x10_1) (⟨#[45, 45]⟩ : ByteArray) false _ A19.out).mono ?_); rintro e w' ⟨rfl, ⟨nd, rfl⟩⟩; refine ⟨_, rfl, ?_⟩))
                     go_loopg [8, 10, 15] kj11 (fun kq v8 v10 v15 w' => ∃ (x8_3 : List (S36)) (x10_3 : Int) (x15_3 : Int), v10 = .int .i64 x10_3 ∧ v15 = .int .i64 x15_3 ∧ Aside0 (domesdayref13_Read.l2 kq l0 l1 x8_3 x9_1 x10_3 (rdOf ByteArray.empty l1 x10_1) x15_3 = some (r1, r2, r3, r4)) ∧ Aside0 (kq ≤ kj11) ∧ Aside0 (Kd.R k36 36 w' w.heap.size (fun _ => True) v8 x8_3) ∧ Aside0 (Kd.R Kd.string 9 w' w.heap.size (fun _ => True) u9 x9_1) ∧ Aside0 (Below w.heap.size w w'))
                     case atStart => exact ⟨(x8_1), (x10_1), (1), (by first | rfl | (simp; done) | (simp [*]; done)), (by first | rfl | (simp; done) | (simp [*]; done)), H', ⟨Nat.le_refl _⟩, ⟨by (with_reducible repeat (first | apply Kd.R_alloc | apply Kd.R_drewN | apply Kd.R_drew)); exact HO_8.out⟩, ⟨by (with_reducible repeat (first | apply Kd.R_alloc | apply Kd.R_drewN | apply Kd.R_drew)); exact HO_9.out⟩, ⟨by repeat (first | (with_reducible first | exact HB.out | apply below_alloc | apply pw_below_drewN | apply below_drew1) | exact HB.out)⟩⟩
                     case round =>
                       clear H'
                       try clear c1
                       try clear p1
                       try clear q1
                       try clear hx1
                       try clear qi1
                       try clear c2
                       try clear p2
                       try clear q2
                       try clear hx2
                       try clear c3
                       try clear c3b0
                       try clear q3
                       try clear c4
                       try clear c4b0
                       try clear q4
                       try clear c5
                       try clear c5b0
                       try clear c5b1
                       try clear q5
                       try clear c6
                       try clear p6
                       try clear c7
                       try clear c7b0
                       try clear c7b1
                       try clear c8
                       try clear c8b0
                       try clear c8b1
                       try clear c9
                       try clear c11
                       try clear p12
                       try clear q12
                       try clear hx12
                       try clear c13
                       try clear c13b0
                       try clear c13b1
                       try clear p13
                       try clear q13
                       try clear hx13
                       try clear c14
                       try clear c14b0
                       try clear c14b1
                       try clear p14
                       try clear q14
                       try clear hx14
                       try clear p15
                       try clear q15
                       try clear hx15
                       try clear qi15
                       try clear c16
                       try clear c17
                       try clear c18
                       try clear c20
                       try clear c22
                       try clear c22b0
                       try clear c23
                       try clear c23b0
                       try clear p24
                       try clear q24
                       try clear hx24
                       try clear c25
                       try clear c25b0
                       try clear c25b1
                       try clear c26
                       try clear c26b0
                       try clear c26b1
                       try clear c27
                       try clear c27b0
                       try clear c27b1
                       try clear c30
                       try clear c30b0
                       try clear c31
                       try clear c31b0
                       try clear c32
                       try clear c32b0
                       try clear c33
                       try clear c33b0
                       try clear q34
                       try clear c35
                       try clear c36
                       try clear c36b0
                       try clear c36b1
                       try clear c37
                       try clear c38
                       try clear c38b0
                       try clear c38b1
                       try clear c39
                       try clear c39b0
                       try clear c40
                       try clear c40b0
                       try clear q41
                       try clear c42
                       try clear c43
                       try clear c44
                       try clear c44b0
                       try clear c45
                       try clear c45b0
                       try clear c46
                       try clear c46b0
                       try clear c48
                       try clear c48b0
                       try clear c48b1
                       try clear c49
                       try clear c49b0
                       try clear c49b1
                       try clear c50
                       try clear q54
                       try clear c55
                       try clear c57
                       try clear c57b0
                       try clear c58
                       try clear c58b0
                       try clear c59
                       try clear c63
                       try clear p64
                       try clear hcz52_0
                       try clear hcz52_1
                       try clear hcz61_0
                       try clear hcz61_1
                       try clear hcz65_0
                       try clear hcz65_1
                       try clear hfz52_0
                       try clear hfz52_1
                       try clear hfz61_0
                       try clear hfz61_1
                       try clear hfz65_0
                       try clear hfz65_1
                       try clear hx124_0
                       try clear hx134_0
                       try clear hx134_1
                       try clear hx134_2
                       try clear hx135_0
                       try clear hx135_1
                       try clear hx135_2
                       try clear hx136_0
                       try clear hx136_1
                       try clear hx136_2
                       try clear hx137_0
                       try clear hx137_1
                       try clear hx137_2
                       try clear hx142_0
                       try clear hx142_1
                       try clear hx142_2
                       try clear hx143_0
                       try clear p1
                       try clear p12
                       try clear p124
                       try clear p13
                       try clear p134
                       try clear p135
                       try clear p136
                       try clear p137
                       try clear p142
                       try clear p143
                       try clear p15
                       try clear p2
                       try clear p24
                       try clear p6
                       try clear q1
                       try clear q12
                       try clear q124
                       try clear q13
                       try clear q134
                       try clear q135
                       try clear q136
                       try clear q137
                       try clear q142
                       try clear q143
                       try clear q15
                       try clear q2
                       try clear q24
                       try clear q3
                       try clear q34
                       try clear q4
                       try clear q41
                       obtain ⟨x8_3, x10_3, x15_3, rfl, rfl, HA, HK3, HO_8, HO_9, HB⟩ := hrel
                       cases gk with
                       | zero => exact absurd HA.out (by simp [domesdayref13_Read.l2])
                       | succ k3 =>
                         have H := HA.out
                         clear HA
                         simp only [domesdayref13_Read.l2] at H
                         by_cases c67 : x15_3 < ((rdOf ByteArray.empty l1 x10_1).size : Int)
                         · rw [if_pos c67] at H
                           have c67b0 : decide (x15_3 < ((rdOf ByteArray.empty l1 x10_1).size : Int)) = true := decide_eq_true c67
                           clear c67
                           by_cases c68 : 0 ≤ x15_3
                           · rw [if_pos c68] at H
                             have c68b0 : decide (0 ≤ x15_3) = true := decide_eq_true c68
                             clear c68
                             replace H := Option.bind_eq_some_iff.mp H
                             obtain ⟨t150, A700, H⟩ := H
                             replace H : (if t150 < 0 then (domesdayref13_Read.j6 k3 l0 l1 x8_3 x9_1 x10_3 (rdOf ByteArray.empty l1 x10_1) x15_3 t150 true) else (if 0 ≤ t150 then (if t150 < (l0.length : Int) then (if (rd_T42 l0 t150).f2 = true then (if (wrap64 (x15_3 + 1)) = ((rdOf ByteArray.empty l1 x10_1).size : Int) then (domesdayref13_Read.j6 k3 l0 l1 x8_3 x9_1 x10_3 (rdOf ByteArray.empty l1 x10_1) x15_3 t150 ((wrap64 (x10_3 + 1)) == (l1.length : Int))) else (domesdayref13_Read.j6 k3 l0 l1 x8_3 x9_1 x10_3 (rdOf ByteArray.empty l1 x10_1) x15_3 t150 false)) else (domesdayref13_Read.j6 k3 l0 l1 x8_3 x9_1 x10_3 (rdOf ByteArray.empty l1 x10_1) x15_3 t150 false)) else (none)) else (none))) = some (r1, r2, r3, r4) := H
                             have A70 := Aside0.mk A700
                             clear A700
                             have HC71 := Aside0.mk H
                             clear H
                             have p69 : 0 ≤ (x15_3 : Int) := of_decide_eq_true (by first | (with_reducible assumption) | assumption)
                             have q69 : x15_3 < ((rdOf ByteArray.empty l1 x10_1).size : Int) := of_decide_eq_true (by first | (with_reducible assumption) | assumption)
                             have hx69 := bt_at (rdOf ByteArray.empty l1 x10_1) x15_3
                             replace p69 := eq_true p69
                             replace q69 := eq_true q69
                             go_upto_region 29 with (first | ((with_reducible refine gate_callee (f := 19) rfl ?_); refine goesL_ (some 146) rfl rfl Try.func19 (by kernel_rfl) rfl #[.slice A0 l0.length c0, .int .u8 (bt (rdOf ByteArray.empty l1 x10_1) x15_3)] rfl (by (try simp only [List.map_toArray, List.map_cons, List.map_nil]); first | done | rfl | (simp only [List.length_drop, List.length_take]; rfl)) ?_; (with_reducible refine (domesdayref13_Letter.calls k3 _ _ l0 (bt (rdOf ByteArray.empty l1 x10_1) x15_3) t150 _ ?side1 ?side2 A70.out).mono ?_); (case side1 => repeat (first | exact (Kd.C_below HR0.out HB.out) | (with_reducible refine Kd.C_alloc ?_ _) | (with_reducible refine Kd.C_drewN ?_ _) | (with_reducible refine Kd.C_drew ?_))); (case side2 => exact HC0.out); rintro e w' ⟨rfl, ⟨nd, rfl⟩⟩; refine ⟨_, rfl, ?_⟩))
                             (try simp only [Act.put, List.setIfInBounds_toArray, List.set_cons_zero, List.set_cons_succ])
                             go_cut [169] (fun v169 wc => ∃ (kq : Nat) (x169_70 : Bool), v169 = .bool x169_70 ∧ Aside0 (domesdayref13_Read.j6 kq l0 l1 x8_3 x9_1 x10_3 (rdOf ByteArray.empty l1 x10_1) x15_3 t150 x169_70 = some (r1, r2, r3, r4)) ∧ Aside0 (kq ≤ k3) ∧ Aside0 (Kd.R k36 36 wc w.heap.size (fun _ => True) u8 x8_3) ∧ Aside0 (Kd.R Kd.string 9 wc w.heap.size (fun _ => True) u9 x9_1) ∧ Aside0 (Below w.heap.size w wc))
                             case first =>
                               have H := HC71.out
                               clear HC71
                               by_cases c72 : t150 < 0
                               · rw [if_pos c72] at H
                                 have c72b0 : decide (t150 < 0) = true := decide_eq_true c72
                                 clear c72
                                 (first | rw [c72b0] | (simp only [i64_w, i32_w]; rw [c72b0]) | skip)
                                 have H' := Aside0.mk H
                                 clear H
                                 go_wp2
                                 go_meet
                                 case rel => exact ⟨_, (true), (by first | rfl | (simp; done) | (simp [*]; done)), H', ⟨by have := HK1.out; have := HJ11.out; have := HK3.out; first | omega | exact Nat.le_refl _⟩, ⟨by (with_reducible repeat (first | apply Kd.R_alloc | apply Kd.R_drewN | apply Kd.R_drew)); exact HO_8.out⟩, ⟨by (with_reducible repeat (first | apply Kd.R_alloc | apply Kd.R_drewN | apply Kd.R_drew)); exact HO_9.out⟩, ⟨by repeat (first | (with_reducible first | exact HB.out | apply below_alloc | apply pw_below_drewN | apply below_drew1) | exact HB.out)⟩⟩
                               · rw [if_neg c72] at H
                                 have c72b0 : decide (t150 < 0) = false := decide_eq_false c72
                                 clear c72
                                 (first | rw [c72b0] | (simp only [i64_w, i32_w]; rw [c72b0]) | skip)
                                 by_cases c73 : 0 ≤ t150
                                 · rw [if_pos c73] at H
                                   have c73b0 : decide (0 ≤ t150) = true := decide_eq_true c73
                                   clear c73
                                   by_cases c74 : t150 < (l0.length : Int)
                                   · rw [if_pos c74] at H
                                     have c74b0 : decide (t150 < (l0.length : Int)) = true := decide_eq_true c74
                                     clear c74
                                     obtain ⟨bq75, hbq75⟩ : ∃ b_ : Bool, b_ = ((rd_T42 l0 t150).f2) := ⟨_, rfl⟩
                                     replace H : (if bq75 = true then (if (wrap64 (x15_3 + 1)) = ((rdOf ByteArray.empty l1 x10_1).size : Int) then (domesdayref13_Read.j6 k3 l0 l1 x8_3 x9_1 x10_3 (rdOf ByteArray.empty l1 x10_1) x15_3 t150 ((wrap64 (x10_3 + 1)) == (l1.length : Int))) else (domesdayref13_Read.j6 k3 l0 l1 x8_3 x9_1 x10_3 (rdOf ByteArray.empty l1 x10_1) x15_3 t150 false)) else (domesdayref13_Read.j6 k3 l0 l1 x8_3 x9_1 x10_3 (rdOf ByteArray.empty l1 x10_1) x15_3 t150 false)) = some (r1, r2, r3, r4) := by rw [← hbq75] at H; exact H
                                     have Nbq75 := Aside0.mk hbq75
                                     clear hbq75
                                     by_cases c76 : bq75 = true
                                     · subst c76
                                       have H1 : (if (wrap64 (x15_3 + 1)) = ((rdOf ByteArray.empty l1 x10_1).size : Int) then (domesdayref13_Read.j6 k3 l0 l1 x8_3 x9_1 x10_3 (rdOf ByteArray.empty l1 x10_1) x15_3 t150 ((wrap64 (x10_3 + 1)) == (l1.length : Int))) else (domesdayref13_Read.j6 k3 l0 l1 x8_3 x9_1 x10_3 (rdOf ByteArray.empty l1 x10_1) x15_3 t150 false)) = some (r1, r2, r3, r4) := by rw [if_pos rfl] at H; exact H
                                       clear H
                                       have H := H1
                                       clear H1
                                       by_cases c77 : (wrap64 (x15_3 + 1)) = ((rdOf ByteArray.empty l1 x10_1).size : Int)
                                       · rw [if_pos c77] at H
                                         have c77b0 : ((wrap64 (x15_3 + 1)) == ((rdOf ByteArray.empty l1 x10_1).size : Int)) = true := beq_iff_eq.mpr c77
                                         have c77b1 : ((wrap64 (x15_3 + 1)) != ((rdOf ByteArray.empty l1 x10_1).size : Int)) = false := bne_eq_false_iff_eq.mpr c77
                                         clear c77
                                         have H' := Aside0.mk H
                                         clear H
                                         have p151 : 0 ≤ (t150 : Int) := of_decide_eq_true (by first | (with_reducible assumption) | assumption)
                                         have q151 : t150 < (l0.length : Int) := of_decide_eq_true (by first | (with_reducible assumption) | assumption)
                                         obtain ⟨ad151, e151, hx151_0, hx151_1, hx151_2⟩ := at_T42 HR0.out t150 p151 q151
                                         (try rw [← Nbq75.out] at hx151_2)
                                         cases e151
                                         replace hx151_0 := (HB.out.cell (World.block_lt_of_cell? w _ hx151_0)).trans hx151_0
                                         replace hx151_1 := (HB.out.cell (World.block_lt_of_cell? w _ hx151_1)).trans hx151_1
                                         replace hx151_2 := (HB.out.cell (World.block_lt_of_cell? w _ hx151_2)).trans hx151_2
                                         replace p151 := eq_true p151
                                         replace q151 := eq_true q151
                                         go_wp2
                                         go_meet
                                         case rel => exact ⟨_, (((wrap64 (x10_3 + 1)) == (l1.length : Int))), (by first | rfl | (simp; done) | (simp [*]; done)), H', ⟨by have := HK1.out; have := HJ11.out; have := HK3.out; first | omega | exact Nat.le_refl _⟩, ⟨by (with_reducible repeat (first | apply Kd.R_alloc | apply Kd.R_drewN | apply Kd.R_drew)); exact HO_8.out⟩, ⟨by (with_reducible repeat (first | apply Kd.R_alloc | apply Kd.R_drewN | apply Kd.R_drew)); exact HO_9.out⟩, ⟨by repeat (first | (with_reducible first | exact HB.out | apply below_alloc | apply pw_below_drewN | apply below_drew1) | exact HB.out)⟩⟩
                                       · rw [if_neg c77] at H
                                         have c77b0 : ((wrap64 (x15_3 + 1)) == ((rdOf ByteArray.empty l1 x10_1).size : Int)) = false := beq_eq_false_iff_ne.mpr c77
                                         have c77b1 : ((wrap64 (x15_3 + 1)) != ((rdOf ByteArray.empty l1 x10_1).size : Int)) = true := bne_iff_ne.mpr c77
                                         have H' := Aside0.mk H
                                         clear H
                                         have p151 : 0 ≤ (t150 : Int) := of_decide_eq_true (by first | (with_reducible assumption) | assumption)
                                         have q151 : t150 < (l0.length : Int) := of_decide_eq_true (by first | (with_reducible assumption) | assumption)
                                         obtain ⟨ad151, e151, hx151_0, hx151_1, hx151_2⟩ := at_T42 HR0.out t150 p151 q151
                                         (try rw [← Nbq75.out] at hx151_2)
                                         cases e151
                                         replace hx151_0 := (HB.out.cell (World.block_lt_of_cell? w _ hx151_0)).trans hx151_0
                                         replace hx151_1 := (HB.out.cell (World.block_lt_of_cell? w _ hx151_1)).trans hx151_1
                                         replace hx151_2 := (HB.out.cell (World.block_lt_of_cell? w _ hx151_2)).trans hx151_2
                                         replace p151 := eq_true p151
                                         replace q151 := eq_true q151
                                         go_wp2
                                         go_meet
                                         case rel => exact ⟨_, (false), (by first | rfl | (simp; done) | (simp [*]; done)), H', ⟨by have := HK1.out; have := HJ11.out; have := HK3.out; first | omega | exact Nat.le_refl _⟩, ⟨by (with_reducible repeat (first | apply Kd.R_alloc | apply Kd.R_drewN | apply Kd.R_drew)); exact HO_8.out⟩, ⟨by (with_reducible repeat (first | apply Kd.R_alloc | apply Kd.R_drewN | apply Kd.R_drew)); exact HO_9.out⟩, ⟨by repeat (first | (with_reducible first | exact HB.out | apply below_alloc | apply pw_below_drewN | apply below_drew1) | exact HB.out)⟩⟩
                                     · replace c76 := Bool.eq_false_iff.mpr c76
                                       subst c76
                                       have H1 : (domesdayref13_Read.j6 k3 l0 l1 x8_3 x9_1 x10_3 (rdOf ByteArray.empty l1 x10_1) x15_3 t150 false) = some (r1, r2, r3, r4) := by rw [if_neg (show ¬ (false = true) by decide)] at H; exact H
                                       clear H
                                       have H := H1
                                       clear H1
                                       have H' := Aside0.mk H
                                       clear H
                                       have p151 : 0 ≤ (t150 : Int) := of_decide_eq_true (by first | (with_reducible assumption) | assumption)
                                       have q151 : t150 < (l0.length : Int) := of_decide_eq_true (by first | (with_reducible assumption) | assumption)
                                       obtain ⟨ad151, e151, hx151_0, hx151_1, hx151_2⟩ := at_T42 HR0.out t150 p151 q151
                                       (try rw [← Nbq75.out] at hx151_2)
                                       cases e151
                                       replace hx151_0 := (HB.out.cell (World.block_lt_of_cell? w _ hx151_0)).trans hx151_0
                                       replace hx151_1 := (HB.out.cell (World.block_lt_of_cell? w _ hx151_1)).trans hx151_1
                                       replace hx151_2 := (HB.out.cell (World.block_lt_of_cell? w _ hx151_2)).trans hx151_2
                                       replace p151 := eq_true p151
                                       replace q151 := eq_true q151
                                       go_wp2
                                       go_meet
                                       case rel => exact ⟨_, (false), (by first | rfl | (simp; done) | (simp [*]; done)), H', ⟨by have := HK1.out; have := HJ11.out; have := HK3.out; first | omega | exact Nat.le_refl _⟩, ⟨by (with_reducible repeat (first | apply Kd.R_alloc | apply Kd.R_drewN | apply Kd.R_drew)); exact HO_8.out⟩, ⟨by (with_reducible repeat (first | apply Kd.R_alloc | apply Kd.R_drewN | apply Kd.R_drew)); exact HO_9.out⟩, ⟨by repeat (first | (with_reducible first | exact HB.out | apply below_alloc | apply pw_below_drewN | apply below_drew1) | exact HB.out)⟩⟩
                                   · rw [if_neg c74] at H
                                     exact absurd H (by simp)
                                 · rw [if_neg c73] at H
                                   exact absurd H (by simp)
                             case rest =>
                               as_aux_lemma =>
                                clear HC71
                                try clear c1
                                try clear p1
                                try clear q1
                                try clear hx1
                                try clear qi1
                                try clear c2
                                try clear p2
                                try clear q2
                                try clear hx2
                                try clear c3
                                try clear c3b0
                                try clear q3
                                try clear c4
                                try clear c4b0
                                try clear q4
                                try clear c5
                                try clear c5b0
                                try clear c5b1
                                try clear q5
                                try clear c6
                                try clear p6
                                try clear q6
                                try clear hx6
                                try clear c7
                                try clear c7b0
                                try clear c7b1
                                try clear q7
                                try clear c8
                                try clear c8b0
                                try clear c8b1
                                try clear c9
                                try clear c11
                                try clear p12
                                try clear q12
                                try clear hx12
                                try clear c13
                                try clear c13b0
                                try clear c13b1
                                try clear p13
                                try clear q13
                                try clear hx13
                                try clear c14
                                try clear c14b0
                                try clear c14b1
                                try clear p14
                                try clear q14
                                try clear hx14
                                try clear p15
                                try clear q15
                                try clear hx15
                                try clear qi15
                                try clear c16
                                try clear c17
                                try clear c18
                                try clear c19
                                try clear c20
                                try clear c22
                                try clear c22b0
                                try clear c23
                                try clear c23b0
                                try clear p24
                                try clear q24
                                try clear hx24
                                try clear c25
                                try clear c25b0
                                try clear c25b1
                                try clear c26
                                try clear c26b0
                                try clear c26b1
                                try clear c27
                                try clear c27b0
                                try clear c27b1
                                try clear c30
                                try clear c30b0
                                try clear c31
                                try clear c31b0
                                try clear c32
                                try clear c32b0
                                try clear c33
                                try clear c33b0
                                try clear q34
                                try clear c35
                                try clear c36
                                try clear c36b0
                                try clear c36b1
                                try clear c37
                                try clear c38
                                try clear c38b0
                                try clear c38b1
                                try clear c39
                                try clear c39b0
                                try clear c40
                                try clear c40b0
                                try clear q41
                                try clear c42
                                try clear c43
                                try clear c44
                                try clear c44b0
                                try clear c45
                                try clear c45b0
                                try clear c46
                                try clear c46b0
                                try clear c48
                                try clear c48b0
                                try clear c48b1
                                try clear c49
                                try clear c49b0
                                try clear c49b1
                                try clear c50
                                try clear q54
                                try clear c55
                                try clear c57
                                try clear c57b0
                                try clear c58
                                try clear c58b0
                                try clear c59
                                try clear c63
                                try clear p64
                                try clear c67
                                try clear c67b0
                                try clear c68
                                try clear c68b0
                                try clear p69
                                try clear q69
                                try clear hx69
                                try clear c72
                                try clear c72b0
                                try clear c73
                                try clear c73b0
                                try clear c74
                                try clear c74b0
                                try clear q75
                                try clear c76
                                try clear c77
                                try clear c77b0
                                try clear c77b1
                                try clear hcz52_0
                                try clear hcz52_1
                                try clear hcz61_0
                                try clear hcz61_1
                                try clear hcz65_0
                                try clear hcz65_1
                                try clear hfz52_0
                                try clear hfz52_1
                                try clear hfz61_0
                                try clear hfz61_1
                                try clear hfz65_0
                                try clear hfz65_1
                                try clear hx124_0
                                try clear hx134_0
                                try clear hx134_1
                                try clear hx134_2
                                try clear hx135_0
                                try clear hx135_1
                                try clear hx135_2
                                try clear hx136_0
                                try clear hx136_1
                                try clear hx136_2
                                try clear hx137_0
                                try clear hx137_1
                                try clear hx137_2
                                try clear hx142_0
                                try clear hx142_1
                                try clear hx142_2
                                try clear hx143_0
                                try clear hx151_0
                                try clear hx151_1
                                try clear hx151_2
                                try clear p1
                                try clear p12
                                try clear p124
                                try clear p13
                                try clear p134
                                try clear p135
                                try clear p136
                                try clear p137
                                try clear p14
                                try clear p142
                                try clear p143
                                try clear p15
                                try clear p151
                                try clear p2
                                try clear p24
                                try clear p6
                                try clear p64
                                try clear p69
                                try clear q1
                                try clear q12
                                try clear q124
                                try clear q13
                                try clear q134
                                try clear q135
                                try clear q136
                                try clear q137
                                try clear q14
                                try clear q142
                                try clear q143
                                try clear q15
                                try clear q151
                                try clear q2
                                try clear q24
                                try clear q3
                                try clear q34
                                try clear q4
                                try clear q41
                                try clear q5
                                try clear q54
                                try clear q69
                                obtain ⟨kq, x169_70, rfl, HA, HJ70, HO_8, HO_9, HB⟩ := hcut
                                cases kq with
                                | zero => exact absurd HA.out (by simp [domesdayref13_Read.j6])
                                | succ kj70 =>
                                  have H := HA.out
                                  clear HA
                                  simp only [domesdayref13_Read.j6] at H
                                  by_cases c78 : x169_70 = true
                                  · subst c78
                                    have H1 : (some (([] : List (S36)), ([] : List ByteArray), (rdOf ByteArray.empty l1 x10_1), false)) = some (r1, r2, r3, r4) := by rw [if_pos rfl] at H; exact H
                                    clear H
                                    have H := H1
                                    clear H1
                                    simp only [Option.some.injEq, Prod.mk.injEq] at H
                                    obtain ⟨rfl, rfl, rfl, rfl⟩ := H
                                    go_wp2
                                    refine bodyPost_ret (results_list (rs := [.tmp 4, .tmp 5, .tmp 6, .tmp 7]) rfl (by simp) (.tmp (.tmp (.tmp (.tmp .nil))))) rfl ?_
                                    exact ⟨_, _, by first | rfl | (simp [errW_none, errW_some] <;> rfl) | (simp [*, errW_none, errW_some] <;> rfl), by first | exact Kd.R_nil _ _ _ _ _ | exact Kd.N_nil _ _ _ _ _ | exact Kd.V_nil _ _ _ _ _ | exact Kd.Q_nil _ _ _ _ _ | exact Kd.S_nil _ _ _ _ _, by first | exact Kd.R_nil _ _ _ _ _ | exact Kd.N_nil _ _ _ _ _ | exact Kd.V_nil _ _ _ _ _ | exact Kd.Q_nil _ _ _ _ _ | exact Kd.S_nil _ _ _ _ _, by repeat (first | (with_reducible first | exact HB.out | apply below_alloc | apply pw_below_drewN | apply below_drew1) | exact HB.out)⟩
                                  · replace c78 := Bool.eq_false_iff.mpr c78
                                    subst c78
                                    have H1 : (if 0 ≤ x15_3 then (if x15_3 < ((rdOf ByteArray.empty l1 x10_1).size : Int) then (if 0 ≤ t150 then (if t150 < (l0.length : Int) then (if (rd_T42 l0 t150).f2 = true then (domesdayref13_Read.j7 kj70 l0 l1 x8_3 x9_1 x10_3 (rdOf ByteArray.empty l1 x10_1) x15_3 t150 (decide ((wrap64 (x15_3 + 1)) < ((rdOf ByteArray.empty l1 x10_1).size : Int))) (bt (rdOf ByteArray.empty l1 x10_1) x15_3) (⟨#[]⟩ : ByteArray)) else (domesdayref13_Read.j7 kj70 l0 l1 x8_3 x9_1 x10_3 (rdOf ByteArray.empty l1 x10_1) x15_3 t150 false (bt (rdOf ByteArray.empty l1 x10_1) x15_3) (⟨#[]⟩ : ByteArray))) else (none)) else (none)) else (none)) else (none)) = some (r1, r2, r3, r4) := by rw [if_neg (show ¬ (false = true) by decide)] at H; exact H
                                    clear H
                                    have H := H1
                                    clear H1
                                    by_cases c79 : 0 ≤ x15_3
                                    · rw [if_pos c79] at H
                                      have c79b0 : decide (0 ≤ x15_3) = true := decide_eq_true c79
                                      clear c79
                                      by_cases c80 : x15_3 < ((rdOf ByteArray.empty l1 x10_1).size : Int)
                                      · rw [if_pos c80] at H
                                        have c80b0 : decide (x15_3 < ((rdOf ByteArray.empty l1 x10_1).size : Int)) = true := decide_eq_true c80
                                        clear c80
                                        have HC82 := Aside0.mk H
                                        clear H
                                        have p81 : 0 ≤ (x15_3 : Int) := of_decide_eq_true (by first | (with_reducible assumption) | assumption)
                                        have q81 : x15_3 < ((rdOf ByteArray.empty l1 x10_1).size : Int) := of_decide_eq_true (by first | (with_reducible assumption) | assumption)
                                        have hx81 := bt_at (rdOf ByteArray.empty l1 x10_1) x15_3
                                        replace p81 := eq_true p81
                                        replace q81 := eq_true q81
                                        go_upto_region 32 with (first | ((with_reducible refine gate_dst (N := 17) rfl ?_); (try (refine gate_guard (by rfl) ?_; dsimp only)); refine box_event ?hg (N := 17) ?hd (cs := #[.int .u8 0, .string (⟨#[]⟩ : ByteArray)]) (t := 36) ?hr ?_; (case hd => rfl); (case hg => rfl); (case hr => first | (go_simp; done) | (go_simp; rfl)); intro gb152 hg w83 hbox hb; have n0_ := Aside0.mk (Kd.R_below (Kd.R_elderB (by (with_reducible repeat (first | apply Kd.R_alloc | apply Kd.R_drewN | apply Kd.R_drew)); exact HO_8.out) gb152 (Nat.le_of_eq hg.symm)) hb); have n1_ := Aside0.mk (Kd.R_below (by (with_reducible repeat (first | apply Kd.R_alloc | apply Kd.R_drewN | apply Kd.R_drew)); exact HO_9.out) hb); have n2_ := Aside0.mk (below_step (by repeat (first | (with_reducible first | exact HB.out | apply below_alloc | apply pw_below_drewN | apply below_drew1) | exact HB.out)) hb); have n3_ := Aside0.mk (hbox); have n4_ := Aside0.mk ((by rw [hg]; exact (below_size (by repeat (first | (with_reducible first | exact HB.out | apply below_alloc | apply pw_below_drewN | apply below_drew1) | exact HB.out))) : w.heap.size ≤ gb152)); have n5_ := Aside0.mk ((by rw [hg]; exact (below_size (by repeat (first | (with_reducible first | exact HB.out | apply below_alloc | apply pw_below_drewN | apply below_drew1) | exact HB.out))) : w.heap.size ≤ gb152)); clear HO_8; clear HO_9; clear HB; have HO_8 := n0_; have HO_9 := n1_; have HB := n2_; have BK152 := n3_; have GW152 := n4_; have GE152 := n5_; clear n0_ n1_ n2_ n3_ n4_ n5_; clear hb hbox hg; have hcz84_0 : w83.cell? ⟨gb152, 0, none⟩ = some (.int .u8 0) := (blk_cell BK152.out 0).trans rfl; have hcz84_1 : w83.cell? ⟨gb152, 1, none⟩ = some (.string (⟨#[]⟩ : ByteArray)) := (blk_cell BK152.out 1).trans rfl; have hfz84_0 := blk_frozen BK152.out 0; have hfz84_1 := blk_frozen BK152.out 1; have hq84_1 : ∀ a_ b_ u_ : Value, (((w83.setCell ⟨gb152, 0, none⟩ a_).setCell ⟨gb152, 1, none⟩ b_).setCell ⟨gb152, 1, none⟩ u_).cell? ⟨gb152, 1, none⟩ = some u_ := fun a_ b_ u_ => (blk_cell (blk_set (blk_set (blk_set BK152.out 0 a_) 1 b_) 1 u_) 1).trans rfl))
                                        (try simp only [Act.put, List.setIfInBounds_toArray, List.set_cons_zero, List.set_cons_succ])
                                        go_cut [186] (fun v186 wc => ∃ (kq : Nat) (x186_81 : Bool), v186 = .bool x186_81 ∧ Aside0 (domesdayref13_Read.j7 kq l0 l1 x8_3 x9_1 x10_3 (rdOf ByteArray.empty l1 x10_1) x15_3 t150 x186_81 (bt (rdOf ByteArray.empty l1 x10_1) x15_3) (⟨#[]⟩ : ByteArray) = some (r1, r2, r3, r4)) ∧ Aside0 (kq ≤ kj70) ∧ Aside0 (Kd.R k36 36 wc w.heap.size (fun k_ => k_ ≠ gb152) u8 x8_3) ∧ Aside0 (Kd.R Kd.string 9 wc w.heap.size (fun _ => True) u9 x9_1) ∧ Aside0 (wc.heap[gb152]? = some (.cells #[.int .u8 (bt (rdOf ByteArray.empty l1 x10_1) x15_3), .string (⟨#[]⟩ : ByteArray)] 36 (0, 0))) ∧ Aside0 (Below w.heap.size w wc))
                                        case first =>
                                          have H := HC82.out
                                          clear HC82
                                          by_cases c85 : 0 ≤ t150
                                          · rw [if_pos c85] at H
                                            have c85b0 : decide (0 ≤ t150) = true := decide_eq_true c85
                                            clear c85
                                            (first | rw [c85b0] | (simp only [i64_w, i32_w]; rw [c85b0]) | skip)
                                            by_cases c86 : t150 < (l0.length : Int)
                                            · rw [if_pos c86] at H
                                              have c86b0 : decide (t150 < (l0.length : Int)) = true := decide_eq_true c86
                                              clear c86
                                              obtain ⟨bq87, hbq87⟩ : ∃ b_ : Bool, b_ = ((rd_T42 l0 t150).f2) := ⟨_, rfl⟩
                                              replace H : (if bq87 = true then (domesdayref13_Read.j7 kj70 l0 l1 x8_3 x9_1 x10_3 (rdOf ByteArray.empty l1 x10_1) x15_3 t150 (decide ((wrap64 (x15_3 + 1)) < ((rdOf ByteArray.empty l1 x10_1).size : Int))) (bt (rdOf ByteArray.empty l1 x10_1) x15_3) (⟨#[]⟩ : ByteArray)) else (domesdayref13_Read.j7 kj70 l0 l1 x8_3 x9_1 x10_3 (rdOf ByteArray.empty l1 x10_1) x15_3 t150 false (bt (rdOf ByteArray.empty l1 x10_1) x15_3) (⟨#[]⟩ : ByteArray))) = some (r1, r2, r3, r4) := by rw [← hbq87] at H; exact H
                                              have Nbq87 := Aside0.mk hbq87
                                              clear hbq87
                                              by_cases c88 : bq87 = true
                                              · subst c88
                                                have H1 : (domesdayref13_Read.j7 kj70 l0 l1 x8_3 x9_1 x10_3 (rdOf ByteArray.empty l1 x10_1) x15_3 t150 (decide ((wrap64 (x15_3 + 1)) < ((rdOf ByteArray.empty l1 x10_1).size : Int))) (bt (rdOf ByteArray.empty l1 x10_1) x15_3) (⟨#[]⟩ : ByteArray)) = some (r1, r2, r3, r4) := by rw [if_pos rfl] at H; exact H
                                                clear H
                                                have H := H1
                                                clear H1
                                                have H' := Aside0.mk H
                                                clear H
                                                have p153 : 0 ≤ (t150 : Int) := of_decide_eq_true (by first | (with_reducible assumption) | assumption)
                                                have q153 : t150 < (l0.length : Int) := of_decide_eq_true (by first | (with_reducible assumption) | assumption)
                                                obtain ⟨ad153, e153, hx153_0, hx153_1, hx153_2⟩ := at_T42 HR0.out t150 p153 q153
                                                (try rw [← Nbq87.out] at hx153_2)
                                                cases e153
                                                have hn153_0 : ad153.block ≠ gb152 := Nat.ne_of_lt (Nat.lt_of_lt_of_le (by have := World.block_lt_of_cell? _ _ hx153_0; first | rwa [add_block] at this | exact this) GW152.out)
                                                have hn153_1 : ad153.block ≠ gb152 := Nat.ne_of_lt (Nat.lt_of_lt_of_le (by have := World.block_lt_of_cell? _ _ hx153_0; first | rwa [add_block] at this | exact this) GW152.out)
                                                replace hx153_0 := (HB.out.cell (World.block_lt_of_cell? w _ hx153_0)).trans hx153_0
                                                replace hx153_1 := (HB.out.cell (World.block_lt_of_cell? w _ hx153_1)).trans hx153_1
                                                replace hx153_2 := (HB.out.cell (World.block_lt_of_cell? w _ hx153_2)).trans hx153_2
                                                replace hx153_0 := (cell_far (p := ⟨gb152, 0, none⟩) (by first | (rw [add_block]; exact hn153_0) | (show (Addr.add _ _).block ≠ _; rw [add_block]; exact hn153_0) | exact hn153_0) (.int .u8 (bt (rdOf ByteArray.empty l1 x10_1) x15_3))).trans hx153_0
                                                replace hx153_1 := (cell_far (p := ⟨gb152, 0, none⟩) (by first | (rw [add_block]; exact hn153_0) | (show (Addr.add _ _).block ≠ _; rw [add_block]; exact hn153_0) | exact hn153_0) (.int .u8 (bt (rdOf ByteArray.empty l1 x10_1) x15_3))).trans hx153_1
                                                replace hx153_2 := (cell_far (p := ⟨gb152, 0, none⟩) (by first | (rw [add_block]; exact hn153_0) | (show (Addr.add _ _).block ≠ _; rw [add_block]; exact hn153_0) | exact hn153_0) (.int .u8 (bt (rdOf ByteArray.empty l1 x10_1) x15_3))).trans hx153_2
                                                replace hx153_0 := (cell_far (p := ⟨gb152, 1, none⟩) (by first | (rw [add_block]; exact hn153_1) | (show (Addr.add _ _).block ≠ _; rw [add_block]; exact hn153_1) | exact hn153_1) (.string (⟨#[]⟩ : ByteArray))).trans hx153_0
                                                replace hx153_1 := (cell_far (p := ⟨gb152, 1, none⟩) (by first | (rw [add_block]; exact hn153_1) | (show (Addr.add _ _).block ≠ _; rw [add_block]; exact hn153_1) | exact hn153_1) (.string (⟨#[]⟩ : ByteArray))).trans hx153_1
                                                replace hx153_2 := (cell_far (p := ⟨gb152, 1, none⟩) (by first | (rw [add_block]; exact hn153_1) | (show (Addr.add _ _).block ≠ _; rw [add_block]; exact hn153_1) | exact hn153_1) (.string (⟨#[]⟩ : ByteArray))).trans hx153_2
                                                clear hn153_0
                                                clear hn153_1
                                                replace p153 := eq_true p153
                                                replace q153 := eq_true q153
                                                go_wp2
                                                go_meet
                                                case rel => exact ⟨_, (decide ((wrap64 (x15_3 + 1)) < ((rdOf ByteArray.empty l1 x10_1).size : Int))), (by first | rfl | (simp; done) | (simp [*]; done)), H', ⟨by have := HK1.out; have := HJ11.out; have := HK3.out; have := HJ70.out; first | omega | exact Nat.le_refl _⟩, ⟨by (with_reducible repeat (first | apply Kd.R_alloc | apply Kd.R_drewN | apply Kd.R_drew)); exact Kd.R_mono (Kd.R_far (p := ⟨gb152, 1, none⟩) (Kd.R_far (p := ⟨gb152, 0, none⟩) (Kd.R_mono HO_8.out (fun k_ hk => (⟨hk, hk.2⟩ : _ ∧ k_ ≠ gb152))) (fun _ hk => hk.2) (.int .u8 (bt (rdOf ByteArray.empty l1 x10_1) x15_3))) (fun _ hk => hk.2) (.string (⟨#[]⟩ : ByteArray))) (fun _ hk => hk.1.2)⟩, ⟨by (with_reducible repeat (first | apply Kd.R_alloc | apply Kd.R_drewN | apply Kd.R_drew)); exact Kd.R_mono (Kd.R_far (p := ⟨gb152, 1, none⟩) (Kd.R_far (p := ⟨gb152, 0, none⟩) (Kd.R_types HO_9.out BK152.out (by decide)) (fun _ hk => hk.2) (.int .u8 (bt (rdOf ByteArray.empty l1 x10_1) x15_3))) (fun _ hk => hk.2) (.string (⟨#[]⟩ : ByteArray))) (fun _ hk => trivial)⟩, ⟨by (with_reducible repeat (first | refine blk_drewN ?_ _ | refine blk_drew ?_ | refine blk_alloc ?_ _)); refine blk_put (cs := #[.int .u8 (bt (rdOf ByteArray.empty l1 x10_1) x15_3), .string (⟨#[]⟩ : ByteArray)]) ?_ 1 _ (by first | rfl | (simp; done)); (with_reducible repeat (first | refine blk_drewN ?_ _ | refine blk_drew ?_ | refine blk_alloc ?_ _)); refine blk_put (cs := #[.int .u8 0, .string (⟨#[]⟩ : ByteArray)]) ?_ 0 _ (by first | rfl | (simp; done)); (with_reducible repeat (first | refine blk_drewN ?_ _ | refine blk_drew ?_ | refine blk_alloc ?_ _)); exact BK152.out⟩, ⟨by repeat (first | (with_reducible first | exact HB.out | apply below_alloc | apply pw_below_drewN | apply below_drew1 | refine below_set ?_ GE152.out) | exact HB.out)⟩⟩
                                              · replace c88 := Bool.eq_false_iff.mpr c88
                                                subst c88
                                                have H1 : (domesdayref13_Read.j7 kj70 l0 l1 x8_3 x9_1 x10_3 (rdOf ByteArray.empty l1 x10_1) x15_3 t150 false (bt (rdOf ByteArray.empty l1 x10_1) x15_3) (⟨#[]⟩ : ByteArray)) = some (r1, r2, r3, r4) := by rw [if_neg (show ¬ (false = true) by decide)] at H; exact H
                                                clear H
                                                have H := H1
                                                clear H1
                                                have H' := Aside0.mk H
                                                clear H
                                                have p153 : 0 ≤ (t150 : Int) := of_decide_eq_true (by first | (with_reducible assumption) | assumption)
                                                have q153 : t150 < (l0.length : Int) := of_decide_eq_true (by first | (with_reducible assumption) | assumption)
                                                obtain ⟨ad153, e153, hx153_0, hx153_1, hx153_2⟩ := at_T42 HR0.out t150 p153 q153
                                                (try rw [← Nbq87.out] at hx153_2)
                                                cases e153
                                                have hn153_0 : ad153.block ≠ gb152 := Nat.ne_of_lt (Nat.lt_of_lt_of_le (by have := World.block_lt_of_cell? _ _ hx153_0; first | rwa [add_block] at this | exact this) GW152.out)
                                                have hn153_1 : ad153.block ≠ gb152 := Nat.ne_of_lt (Nat.lt_of_lt_of_le (by have := World.block_lt_of_cell? _ _ hx153_0; first | rwa [add_block] at this | exact this) GW152.out)
                                                replace hx153_0 := (HB.out.cell (World.block_lt_of_cell? w _ hx153_0)).trans hx153_0
                                                replace hx153_1 := (HB.out.cell (World.block_lt_of_cell? w _ hx153_1)).trans hx153_1
                                                replace hx153_2 := (HB.out.cell (World.block_lt_of_cell? w _ hx153_2)).trans hx153_2
                                                replace hx153_0 := (cell_far (p := ⟨gb152, 0, none⟩) (by first | (rw [add_block]; exact hn153_0) | (show (Addr.add _ _).block ≠ _; rw [add_block]; exact hn153_0) | exact hn153_0) (.int .u8 (bt (rdOf ByteArray.empty l1 x10_1) x15_3))).trans hx153_0
                                                replace hx153_1 := (cell_far (p := ⟨gb152, 0, none⟩) (by first | (rw [add_block]; exact hn153_0) | (show (Addr.add _ _).block ≠ _; rw [add_block]; exact hn153_0) | exact hn153_0) (.int .u8 (bt (rdOf ByteArray.empty l1 x10_1) x15_3))).trans hx153_1
                                                replace hx153_2 := (cell_far (p := ⟨gb152, 0, none⟩) (by first | (rw [add_block]; exact hn153_0) | (show (Addr.add _ _).block ≠ _; rw [add_block]; exact hn153_0) | exact hn153_0) (.int .u8 (bt (rdOf ByteArray.empty l1 x10_1) x15_3))).trans hx153_2
                                                replace hx153_0 := (cell_far (p := ⟨gb152, 1, none⟩) (by first | (rw [add_block]; exact hn153_1) | (show (Addr.add _ _).block ≠ _; rw [add_block]; exact hn153_1) | exact hn153_1) (.string (⟨#[]⟩ : ByteArray))).trans hx153_0
                                                replace hx153_1 := (cell_far (p := ⟨gb152, 1, none⟩) (by first | (rw [add_block]; exact hn153_1) | (show (Addr.add _ _).block ≠ _; rw [add_block]; exact hn153_1) | exact hn153_1) (.string (⟨#[]⟩ : ByteArray))).trans hx153_1
                                                replace hx153_2 := (cell_far (p := ⟨gb152, 1, none⟩) (by first | (rw [add_block]; exact hn153_1) | (show (Addr.add _ _).block ≠ _; rw [add_block]; exact hn153_1) | exact hn153_1) (.string (⟨#[]⟩ : ByteArray))).trans hx153_2
                                                clear hn153_0
                                                clear hn153_1
                                                replace p153 := eq_true p153
                                                replace q153 := eq_true q153
                                                go_wp2
                                                go_meet
                                                case rel => exact ⟨_, (false), (by first | rfl | (simp; done) | (simp [*]; done)), H', ⟨by have := HK1.out; have := HJ11.out; have := HK3.out; have := HJ70.out; first | omega | exact Nat.le_refl _⟩, ⟨by (with_reducible repeat (first | apply Kd.R_alloc | apply Kd.R_drewN | apply Kd.R_drew)); exact Kd.R_mono (Kd.R_far (p := ⟨gb152, 1, none⟩) (Kd.R_far (p := ⟨gb152, 0, none⟩) (Kd.R_mono HO_8.out (fun k_ hk => (⟨hk, hk.2⟩ : _ ∧ k_ ≠ gb152))) (fun _ hk => hk.2) (.int .u8 (bt (rdOf ByteArray.empty l1 x10_1) x15_3))) (fun _ hk => hk.2) (.string (⟨#[]⟩ : ByteArray))) (fun _ hk => hk.1.2)⟩, ⟨by (with_reducible repeat (first | apply Kd.R_alloc | apply Kd.R_drewN | apply Kd.R_drew)); exact Kd.R_mono (Kd.R_far (p := ⟨gb152, 1, none⟩) (Kd.R_far (p := ⟨gb152, 0, none⟩) (Kd.R_types HO_9.out BK152.out (by decide)) (fun _ hk => hk.2) (.int .u8 (bt (rdOf ByteArray.empty l1 x10_1) x15_3))) (fun _ hk => hk.2) (.string (⟨#[]⟩ : ByteArray))) (fun _ hk => trivial)⟩, ⟨by (with_reducible repeat (first | refine blk_drewN ?_ _ | refine blk_drew ?_ | refine blk_alloc ?_ _)); refine blk_put (cs := #[.int .u8 (bt (rdOf ByteArray.empty l1 x10_1) x15_3), .string (⟨#[]⟩ : ByteArray)]) ?_ 1 _ (by first | rfl | (simp; done)); (with_reducible repeat (first | refine blk_drewN ?_ _ | refine blk_drew ?_ | refine blk_alloc ?_ _)); refine blk_put (cs := #[.int .u8 0, .string (⟨#[]⟩ : ByteArray)]) ?_ 0 _ (by first | rfl | (simp; done)); (with_reducible repeat (first | refine blk_drewN ?_ _ | refine blk_drew ?_ | refine blk_alloc ?_ _)); exact BK152.out⟩, ⟨by repeat (first | (with_reducible first | exact HB.out | apply below_alloc | apply pw_below_drewN | apply below_drew1 | refine below_set ?_ GE152.out) | exact HB.out)⟩⟩
                                            · rw [if_neg c86] at H
                                              exact absurd H (by simp)
                                          · rw [if_neg c85] at H
                                            exact absurd H (by simp)
                                        case rest =>
                                          clear HC82
                                          try clear c1
                                          try clear p1
                                          try clear q1
                                          try clear hx1
                                          try clear qi1
                                          try clear c2
                                          try clear p2
                                          try clear q2
                                          try clear hx2
                                          try clear c3
                                          try clear c3b0
                                          try clear q3
                                          try clear c4
                                          try clear c4b0
                                          try clear q4
                                          try clear c5
                                          try clear c5b0
                                          try clear c5b1
                                          try clear q5
                                          try clear c6
                                          try clear p6
                                          try clear q6
                                          try clear hx6
                                          try clear c7
                                          try clear c7b0
                                          try clear c7b1
                                          try clear q7
                                          try clear c8
                                          try clear c8b0
                                          try clear c8b1
                                          try clear p8
                                          try clear q8
                                          try clear hx8
                                          try clear c9
                                          try clear c11
                                          try clear p12
                                          try clear q12
                                          try clear hx12
                                          try clear c13
                                          try clear c13b0
                                          try clear c13b1
                                          try clear p13
                                          try clear q13
                                          try clear hx13
                                          try clear c14
                                          try clear c14b0
                                          try clear c14b1
                                          try clear p14
                                          try clear q14
                                          try clear hx14
                                          try clear p15
                                          try clear q15
                                          try clear hx15
                                          try clear qi15
                                          try clear c16
                                          try clear c17
                                          try clear c18
                                          try clear c19
                                          try clear c20
                                          try clear c22
                                          try clear c22b0
                                          try clear c23
                                          try clear c23b0
                                          try clear p24
                                          try clear q24
                                          try clear hx24
                                          try clear c25
                                          try clear c25b0
                                          try clear c25b1
                                          try clear c26
                                          try clear c26b0
                                          try clear c26b1
                                          try clear c27
                                          try clear c27b0
                                          try clear c27b1
                                          try clear c30
                                          try clear c30b0
                                          try clear c31
                                          try clear c31b0
                                          try clear c32
                                          try clear c32b0
                                          try clear c33
                                          try clear c33b0
                                          try clear q34
                                          try clear c35
                                          try clear c36
                                          try clear c36b0
                                          try clear c36b1
                                          try clear c37
                                          try clear c38
                                          try clear c38b0
                                          try clear c38b1
                                          try clear c39
                                          try clear c39b0
                                          try clear c40
                                          try clear c40b0
                                          try clear q41
                                          try clear c42
                                          try clear c43
                                          try clear c44
                                          try clear c44b0
                                          try clear c45
                                          try clear c45b0
                                          try clear c46
                                          try clear c46b0
                                          try clear c48
                                          try clear c48b0
                                          try clear c48b1
                                          try clear c49
                                          try clear c49b0
                                          try clear c49b1
                                          try clear c50
                                          try clear q54
                                          try clear c55
                                          try clear c57
                                          try clear c57b0
                                          try clear c58
                                          try clear c58b0
                                          try clear c59
                                          try clear c63
                                          try clear p64
                                          try clear c67
                                          try clear c67b0
                                          try clear c68
                                          try clear c68b0
                                          try clear p69
                                          try clear q69
                                          try clear hx69
                                          try clear c72
                                          try clear c72b0
                                          try clear c73
                                          try clear c73b0
                                          try clear c74
                                          try clear c74b0
                                          try clear q75
                                          try clear c76
                                          try clear c77
                                          try clear c77b0
                                          try clear c77b1
                                          try clear c78
                                          try clear c79
                                          try clear c79b0
                                          try clear c80
                                          try clear c80b0
                                          try clear p81
                                          try clear q81
                                          try clear hx81
                                          try clear c85
                                          try clear c85b0
                                          try clear c86
                                          try clear c86b0
                                          try clear q87
                                          try clear c88
                                          try clear hcz52_0
                                          try clear hcz52_1
                                          try clear hcz61_0
                                          try clear hcz61_1
                                          try clear hcz65_0
                                          try clear hcz65_1
                                          try clear hcz84_0
                                          try clear hcz84_1
                                          try clear hfz52_0
                                          try clear hfz52_1
                                          try clear hfz61_0
                                          try clear hfz61_1
                                          try clear hfz65_0
                                          try clear hfz65_1
                                          try clear hfz84_0
                                          try clear hfz84_1
                                          try clear hx124_0
                                          try clear hx134_0
                                          try clear hx134_1
                                          try clear hx134_2
                                          try clear hx135_0
                                          try clear hx135_1
                                          try clear hx135_2
                                          try clear hx136_0
                                          try clear hx136_1
                                          try clear hx136_2
                                          try clear hx137_0
                                          try clear hx137_1
                                          try clear hx137_2
                                          try clear hx142_0
                                          try clear hx142_1
                                          try clear hx142_2
                                          try clear hx143_0
                                          try clear hx151_0
                                          try clear hx151_1
                                          try clear hx151_2
                                          try clear hx153_0
                                          try clear hx153_1
                                          try clear hx153_2
                                          try clear p1
                                          try clear p12
                                          try clear p124
                                          try clear p13
                                          try clear p134
                                          try clear p135
                                          try clear p136
                                          try clear p137
                                          try clear p14
                                          try clear p142
                                          try clear p143
                                          try clear p15
                                          try clear p151
                                          try clear p153
                                          try clear p2
                                          try clear p24
                                          try clear p6
                                          try clear p64
                                          try clear p69
                                          try clear p81
                                          try clear q1
                                          try clear q12
                                          try clear q124
                                          try clear q13
                                          try clear q134
                                          try clear q135
                                          try clear q136
                                          try clear q137
                                          try clear q14
                                          try clear q142
                                          try clear q143
                                          try clear q15
                                          try clear q151
                                          try clear q153
                                          try clear q2
                                          try clear q24
                                          try clear q3
                                          try clear q34
                                          try clear q4
                                          try clear q41
                                          try clear q5
                                          try clear q54
                                          try clear q6
                                          try clear q69
                                          try clear q7
                                          try clear q75
                                          try clear q81
                                          obtain ⟨kq, x186_81, rfl, HA, HJ81, HO_8, HO_9, BK152, HB⟩ := hcut
                                          cases kq with
                                          | zero => exact absurd HA.out (by simp [domesdayref13_Read.j7])
                                          | succ kj81 =>
                                            have H := HA.out
                                            clear HA
                                            simp only [domesdayref13_Read.j7] at H
                                            by_cases c89 : x186_81 = true
                                            · subst c89
                                              have H1 : (if 0 ≤ (wrap64 (x15_3 + 1)) then (if (wrap64 (x15_3 + 1)) ≤ ((rdOf ByteArray.empty l1 x10_1).size : Int) then (if x8_3.length < 5864062014805 then (domesdayref13_Read.l2 kj81 l0 l1 (x8_3 ++ [(⟨(bt (rdOf ByteArray.empty l1 x10_1) x15_3), (rdOf ByteArray.empty l1 x10_1).extract ((wrap64 (x15_3 + 1)) : Int).toNat (rdOf ByteArray.empty l1 x10_1).size⟩ : S36)]) x9_1 x10_3 (rdOf ByteArray.empty l1 x10_1) (wrap64 (((rdOf ByteArray.empty l1 x10_1).size : Int) + 1))) else (none)) else (none)) else (none)) = some (r1, r2, r3, r4) := by rw [if_pos rfl] at H; exact H
                                              clear H
                                              have H := H1
                                              clear H1
                                              obtain ⟨ji90, hji90⟩ : ∃ j_ : Int, (wrap64 (x15_3 + 1)) = j_ := ⟨_, rfl⟩
                                              replace H : (if 0 ≤ (ji90) then (if (ji90) ≤ ((rdOf ByteArray.empty l1 x10_1).size : Int) then (if x8_3.length < 5864062014805 then (domesdayref13_Read.l2 kj81 l0 l1 (x8_3 ++ [(⟨(bt (rdOf ByteArray.empty l1 x10_1) x15_3), (rdOf ByteArray.empty l1 x10_1).extract ((ji90) : Int).toNat (rdOf ByteArray.empty l1 x10_1).size⟩ : S36)]) x9_1 x10_3 (rdOf ByteArray.empty l1 x10_1) (wrap64 (((rdOf ByteArray.empty l1 x10_1).size : Int) + 1))) else (none)) else (none)) else (none)) = some (r1, r2, r3, r4) := by first | (rw [hji90] at H; exact H) | (simp only [hji90] at H ⊢; exact H)
                                              have hji90w : (IntKind.i64.wrap (x15_3 + 1)) = ji90 := (i64_w _).trans hji90
                                              by_cases c91 : 0 ≤ (ji90)
                                              · rw [if_pos c91] at H
                                                have c91b0 := eq_true c91
                                                have c91b1 : decide (0 ≤ (ji90)) = true := decide_eq_true c91
                                                clear c91
                                                by_cases c92 : (ji90) ≤ ((rdOf ByteArray.empty l1 x10_1).size : Int)
                                                · rw [if_pos c92] at H
                                                  have c92b0 := eq_true c92
                                                  have c92b1 : decide ((ji90) ≤ ((rdOf ByteArray.empty l1 x10_1).size : Int)) = true := decide_eq_true c92
                                                  clear c92
                                                  by_cases c93 : x8_3.length < 5864062014805
                                                  · rw [if_pos c93] at H
                                                    have LMc93 := Aside0.mk c93
                                                    clear c93
                                                    obtain ⟨y154, hy154⟩ : ∃ y_ : List (S36), y_ = (x8_3 ++ [(⟨(bt (rdOf ByteArray.empty l1 x10_1) x15_3), (rdOf ByteArray.empty l1 x10_1).extract ((ji90) : Int).toNat (rdOf ByteArray.empty l1 x10_1).size⟩ : S36)]) := ⟨_, rfl⟩
                                                    replace H : (domesdayref13_Read.l2 kj81 l0 l1 y154 x9_1 x10_3 (rdOf ByteArray.empty l1 x10_1) (wrap64 (((rdOf ByteArray.empty l1 x10_1).size : Int) + 1))) = some (r1, r2, r3, r4) := by first | (rw [hy154]; with_reducible exact H) | (have H2_ := (Option.bind_some _ _).symm.trans H; rw [hy154]; with_reducible exact H2_) | (have H2_ := (Option.bind_some _ _).symm.trans H; with_reducible exact H2_) | with_reducible exact H | (rw [hy154]; exact H) | exact H
                                                    have Ny154 := Aside0.mk hy154
                                                    clear hy154
                                                    have H' := Aside0.mk H
                                                    clear H
                                                    have hcz94_0 : wc.cell? ⟨gb152, 0, none⟩ = some (.int .u8 (bt (rdOf ByteArray.empty l1 x10_1) x15_3)) := (blk_cell BK152.out 0).trans rfl
                                                    have hcz94_1 : wc.cell? ⟨gb152, 1, none⟩ = some (.string (⟨#[]⟩ : ByteArray)) := (blk_cell BK152.out 1).trans rfl
                                                    have hfz94_0 := blk_frozen BK152.out 0
                                                    have hfz94_1 := blk_frozen BK152.out 1
                                                    go_wp2_with (first | ((with_reducible refine gate_builtin (b := .append) (xs := #[.tmp 206, .tmp 208]) rfl ?_); (try (refine gate_guard (by rfl) ?_; dsimp only)); at_builtin; refine Kd.R_append k36 (w0 := w) w.heap.size rfl (.tmp 206) (.tmp 208) 26 36 (.agg #[(.int .u8 0), (.string ⟨#[]⟩)]) 24 rfl Try.underlying26 info36 rfl (by decide) (by omega) u8 x8_3 (⟨(bt (rdOf ByteArray.empty l1 x10_1) x15_3), (rdOf ByteArray.empty l1 x10_1).extract ((ji90) : Int).toNat (rdOf ByteArray.empty l1 x10_1).size⟩ : S36) [.int .u8 (bt (rdOf ByteArray.empty l1 x10_1) x15_3), .string ((rdOf ByteArray.empty l1 x10_1).extract ((ji90) : Int).toNat (rdOf ByteArray.empty l1 x10_1).size)] (fun k_ => k_ ≠ gb152) (fun _ => False) rfl (by first | (go_simp; done) | (go_simp; rfl)) ?aP (fun _ hk => hk.elim) ?aF ?aO ?aB ?aS ?aL ?_; (case aP => exact k36_mkM _ _ _ (⟨(bt (rdOf ByteArray.empty l1 x10_1) x15_3), (rdOf ByteArray.empty l1 x10_1).extract ((ji90) : Int).toNat (rdOf ByteArray.empty l1 x10_1).size⟩ : S36)); (case aB => exact (by repeat (first | (with_reducible first | exact HB.out | apply below_alloc | apply pw_below_drewN | apply below_drew1 | refine below_set ?_ GE152.out) | exact HB.out))); (case aF => exact (fun k_ hk => Kd.freshB (g := gb152) (o := .cells #[.int .u8 (bt (rdOf ByteArray.empty l1 x10_1) x15_3), .string ((rdOf ByteArray.empty l1 x10_1).extract ((ji90) : Int).toNat (rdOf ByteArray.empty l1 x10_1).size)] 36 (0, 0)) (by (with_reducible repeat (first | refine blk_drewN ?_ _ | refine blk_drew ?_ | refine blk_alloc ?_ _)); refine blk_put (cs := #[.int .u8 (bt (rdOf ByteArray.empty l1 x10_1) x15_3), .string (⟨#[]⟩ : ByteArray)]) ?_ 1 _ (by first | rfl | (simp; done)); (with_reducible repeat (first | refine blk_drewN ?_ _ | refine blk_drew ?_ | refine blk_alloc ?_ _)); exact BK152.out) k_ hk)); (case aO => exact (by (with_reducible repeat (first | apply Kd.R_alloc | apply Kd.R_drewN | apply Kd.R_drew)); exact Kd.R_mono (Kd.R_far (p := ⟨gb152, 1, none⟩) (Kd.R_mono HO_8.out (fun k_ hk => (⟨hk, hk⟩ : _ ∧ k_ ≠ gb152))) (fun _ hk => hk.2) (.string ((rdOf ByteArray.empty l1 x10_1).extract ((ji90) : Int).toNat (rdOf ByteArray.empty l1 x10_1).size))) (fun _ hk => hk.1))); (case aS => exact (below_size (by repeat (first | (with_reducible first | exact HB.out | apply below_alloc | apply pw_below_drewN | apply below_drew1 | refine below_set ?_ GE152.out) | exact HB.out)))); (case aL => have := LMc93.out; omega); intro v155 w95 ho hb hg hat; rw [← Ny154.out] at ho; have n0_ := Aside0.mk (Kd.R_over' (by (with_reducible repeat (first | apply Kd.R_alloc | apply Kd.R_drewN | apply Kd.R_drew)); exact (Kd.R_mono (Kd.R_far (p := ⟨gb152, 1, none⟩) (Kd.R_types HO_9.out BK152.out (by decide)) (fun _ hk => hk.2) (.string ((rdOf ByteArray.empty l1 x10_1).extract ((ji90) : Int).toNat (rdOf ByteArray.empty l1 x10_1).size))) (fun _ h_ => h_.1))) (Kd.R_typed (by (with_reducible repeat (first | apply Kd.R_alloc | apply Kd.R_drewN | apply Kd.R_drew)); exact (Kd.R_mono (Kd.R_far (p := ⟨gb152, 1, none⟩) (Kd.R_mono HO_8.out (fun k_ hk => (⟨hk, hk⟩ : _ ∧ k_ ≠ gb152))) (fun _ hk => hk.2) (.string ((rdOf ByteArray.empty l1 x10_1).extract ((ji90) : Int).toNat (rdOf ByteArray.empty l1 x10_1).size))) (fun _ h_ => h_.1)))) (by decide) hg); have n1_ := Aside0.mk (blk_grown (g := gb152) (o := .cells #[.int .u8 (bt (rdOf ByteArray.empty l1 x10_1) x15_3), .string ((rdOf ByteArray.empty l1 x10_1).extract ((ji90) : Int).toNat (rdOf ByteArray.empty l1 x10_1).size)] 36 (0, 0)) (by (with_reducible repeat (first | refine blk_drewN ?_ _ | refine blk_drew ?_ | refine blk_alloc ?_ _)); refine blk_put (cs := #[.int .u8 (bt (rdOf ByteArray.empty l1 x10_1) x15_3), .string (⟨#[]⟩ : ByteArray)]) ?_ 1 _ (by first | rfl | (simp; done)); (with_reducible repeat (first | refine blk_drewN ?_ _ | refine blk_drew ?_ | refine blk_alloc ?_ _)); exact BK152.out) hg (Kd.R_away HO_8.out (fun _ hk => hk))); have n2_ := Aside0.mk (hb); have n3_ := Aside0.mk (ho); clear HO_9; clear BK152; clear HB; clear HO_8; have HO_9 := n0_; have BK152 := n1_; have HB := n2_; have HO156 := n3_; clear n0_ n1_ n2_ n3_; clear ho hb hg hat))
                                                    go_roundg kj81
                                                    case measure => have := HK1.out; have := HJ11.out; have := HK3.out; have := HJ70.out; have := HJ81.out; omega
                                                    case rel => exact ⟨(y154), (x10_3), (wrap64 (((rdOf ByteArray.empty l1 x10_1).size : Int) + 1)), (by first | rfl | (simp; done) | (simp [*]; done)), (by first | rfl | (simp; done) | (simp [*]; done)), H', ⟨by have := HK1.out; have := HJ11.out; have := HK3.out; have := HJ70.out; have := HJ81.out; omega⟩, ⟨by (with_reducible repeat (first | apply Kd.R_alloc | apply Kd.R_drewN | apply Kd.R_drew)); exact Kd.R_mono HO156.out (fun _ hk => trivial)⟩, ⟨by (with_reducible repeat (first | apply Kd.R_alloc | apply Kd.R_drewN | apply Kd.R_drew)); exact HO_9.out⟩, ⟨by repeat (first | (with_reducible first | exact HB.out | apply below_alloc | apply pw_below_drewN | apply below_drew1 | refine below_set ?_ GE152.out) | exact HB.out)⟩⟩
                                                  · rw [if_neg c93] at H
                                                    exact absurd H (by simp)
                                                · rw [if_neg c92] at H
                                                  exact absurd H (by simp)
                                              · rw [if_neg c91] at H
                                                exact absurd H (by simp)
                                            · replace c89 := Bool.eq_false_iff.mpr c89
                                              subst c89
                                              have H1 : (if 0 ≤ t150 then (if t150 < (l0.length : Int) then (if (rd_T42 l0 t150).f2 = true then (if 0 ≤ (wrap64 (x10_3 + 1)) then (if (wrap64 (x10_3 + 1)) < (l1.length : Int) then (if x8_3.length < 5864062014805 then (domesdayref13_Read.l2 kj81 l0 l1 (x8_3 ++ [(⟨(bt (rdOf ByteArray.empty l1 x10_1) x15_3), rdOf ByteArray.empty l1 (wrap64 (x10_3 + 1))⟩ : S36)]) x9_1 (wrap64 (x10_3 + 1)) (rdOf ByteArray.empty l1 x10_1) (wrap64 (x15_3 + 1))) else (none)) else (none)) else (none)) else (if x8_3.length < 5864062014805 then (domesdayref13_Read.l2 kj81 l0 l1 (x8_3 ++ [(⟨(bt (rdOf ByteArray.empty l1 x10_1) x15_3), (⟨#[]⟩ : ByteArray)⟩ : S36)]) x9_1 x10_3 (rdOf ByteArray.empty l1 x10_1) (wrap64 (x15_3 + 1))) else (none))) else (none)) else (none)) = some (r1, r2, r3, r4) := by rw [if_neg (show ¬ (false = true) by decide)] at H; exact H
                                              clear H
                                              have H := H1
                                              clear H1
                                              by_cases c96 : 0 ≤ t150
                                              · rw [if_pos c96] at H
                                                have c96b0 : decide (0 ≤ t150) = true := decide_eq_true c96
                                                clear c96
                                                by_cases c97 : t150 < (l0.length : Int)
                                                · rw [if_pos c97] at H
                                                  have c97b0 : decide (t150 < (l0.length : Int)) = true := decide_eq_true c97
                                                  clear c97
                                                  obtain ⟨bq98, hbq98⟩ : ∃ b_ : Bool, b_ = ((rd_T42 l0 t150).f2) := ⟨_, rfl⟩
                                                  replace H : (if bq98 = true then (if 0 ≤ (wrap64 (x10_3 + 1)) then (if (wrap64 (x10_3 + 1)) < (l1.length : Int) then (if x8_3.length < 5864062014805 then (domesdayref13_Read.l2 kj81 l0 l1 (x8_3 ++ [(⟨(bt (rdOf ByteArray.empty l1 x10_1) x15_3), rdOf ByteArray.empty l1 (wrap64 (x10_3 + 1))⟩ : S36)]) x9_1 (wrap64 (x10_3 + 1)) (rdOf ByteArray.empty l1 x10_1) (wrap64 (x15_3 + 1))) else (none)) else (none)) else (none)) else (if x8_3.length < 5864062014805 then (domesdayref13_Read.l2 kj81 l0 l1 (x8_3 ++ [(⟨(bt (rdOf ByteArray.empty l1 x10_1) x15_3), (⟨#[]⟩ : ByteArray)⟩ : S36)]) x9_1 x10_3 (rdOf ByteArray.empty l1 x10_1) (wrap64 (x15_3 + 1))) else (none))) = some (r1, r2, r3, r4) := by rw [← hbq98] at H; exact H
                                                  have Nbq98 := Aside0.mk hbq98
                                                  clear hbq98
                                                  by_cases c99 : bq98 = true
                                                  · subst c99
                                                    have H1 : (if 0 ≤ (wrap64 (x10_3 + 1)) then (if (wrap64 (x10_3 + 1)) < (l1.length : Int) then (if x8_3.length < 5864062014805 then (domesdayref13_Read.l2 kj81 l0 l1 (x8_3 ++ [(⟨(bt (rdOf ByteArray.empty l1 x10_1) x15_3), rdOf ByteArray.empty l1 (wrap64 (x10_3 + 1))⟩ : S36)]) x9_1 (wrap64 (x10_3 + 1)) (rdOf ByteArray.empty l1 x10_1) (wrap64 (x15_3 + 1))) else (none)) else (none)) else (none)) = some (r1, r2, r3, r4) := by rw [if_pos rfl] at H; exact H
                                                    clear H
                                                    have H := H1
                                                    clear H1
                                                    obtain ⟨ji100, hji100⟩ : ∃ j_ : Int, (wrap64 (x10_3 + 1)) = j_ := ⟨_, rfl⟩
                                                    replace H : (if 0 ≤ (ji100) then (if (ji100) < (l1.length : Int) then (if x8_3.length < 5864062014805 then (domesdayref13_Read.l2 kj81 l0 l1 (x8_3 ++ [(⟨(bt (rdOf ByteArray.empty l1 x10_1) x15_3), rdOf ByteArray.empty l1 (ji100)⟩ : S36)]) x9_1 ji100 (rdOf ByteArray.empty l1 x10_1) (wrap64 (x15_3 + 1))) else (none)) else (none)) else (none)) = some (r1, r2, r3, r4) := by first | (rw [hji100] at H; exact H) | (simp only [hji100] at H ⊢; exact H)
                                                    have hji100w : (IntKind.i64.wrap (x10_3 + 1)) = ji100 := (i64_w _).trans hji100
                                                    by_cases c101 : 0 ≤ (ji100)
                                                    · rw [if_pos c101] at H
                                                      have c101b0 : decide (0 ≤ (ji100)) = true := decide_eq_true c101
                                                      clear c101
                                                      by_cases c102 : (ji100) < (l1.length : Int)
                                                      · rw [if_pos c102] at H
                                                        have c102b0 : decide ((ji100) < (l1.length : Int)) = true := decide_eq_true c102
                                                        clear c102
                                                        by_cases c103 : x8_3.length < 5864062014805
                                                        · rw [if_pos c103] at H
                                                          have LMc103 := Aside0.mk c103
                                                          clear c103
                                                          obtain ⟨y159, hy159⟩ : ∃ y_ : List (S36), y_ = (x8_3 ++ [(⟨(bt (rdOf ByteArray.empty l1 x10_1) x15_3), rdOf ByteArray.empty l1 (ji100)⟩ : S36)]) := ⟨_, rfl⟩
                                                          replace H : (domesdayref13_Read.l2 kj81 l0 l1 y159 x9_1 ji100 (rdOf ByteArray.empty l1 x10_1) (wrap64 (x15_3 + 1))) = some (r1, r2, r3, r4) := by first | (rw [hy159]; with_reducible exact H) | (have H2_ := (Option.bind_some _ _).symm.trans H; rw [hy159]; with_reducible exact H2_) | (have H2_ := (Option.bind_some _ _).symm.trans H; with_reducible exact H2_) | with_reducible exact H | (rw [hy159]; exact H) | exact H
                                                          have Ny159 := Aside0.mk hy159
                                                          clear hy159
                                                          have H' := Aside0.mk H
                                                          clear H
                                                          have p157 : 0 ≤ (t150 : Int) := of_decide_eq_true (by first | (with_reducible assumption) | assumption)
                                                          have q157 : t150 < (l0.length : Int) := of_decide_eq_true (by first | (with_reducible assumption) | assumption)
                                                          obtain ⟨ad157, e157, hx157_0, hx157_1, hx157_2⟩ := at_T42 HR0.out t150 p157 q157
                                                          (try rw [← Nbq98.out] at hx157_2)
                                                          cases e157
                                                          replace hx157_0 := (HB.out.cell (World.block_lt_of_cell? w _ hx157_0)).trans hx157_0
                                                          replace hx157_1 := (HB.out.cell (World.block_lt_of_cell? w _ hx157_1)).trans hx157_1
                                                          replace hx157_2 := (HB.out.cell (World.block_lt_of_cell? w _ hx157_2)).trans hx157_2
                                                          replace p157 := eq_true p157
                                                          replace q157 := eq_true q157
                                                          have p158 : 0 ≤ ((ji100) : Int) := of_decide_eq_true (by first | (with_reducible assumption) | assumption)
                                                          have q158 : (ji100) < (l1.length : Int) := of_decide_eq_true (by first | (with_reducible assumption) | assumption)
                                                          obtain ⟨ad158, e158, hx158_0⟩ := Kd.at_string HR1.out (ji100) p158 q158
                                                          obtain rfl : ad124 = ad158 := (by injection e158)
                                                          replace hx158_0 := (HB.out.cell (World.block_lt_of_cell? w _ hx158_0)).trans hx158_0
                                                          replace p158 := eq_true p158
                                                          replace q158 := eq_true q158
                                                          have hcz104_0 : wc.cell? ⟨gb152, 0, none⟩ = some (.int .u8 (bt (rdOf ByteArray.empty l1 x10_1) x15_3)) := (blk_cell BK152.out 0).trans rfl
                                                          have hcz104_1 : wc.cell? ⟨gb152, 1, none⟩ = some (.string (⟨#[]⟩ : ByteArray)) := (blk_cell BK152.out 1).trans rfl
                                                          have hfz104_0 := blk_frozen BK152.out 0
                                                          have hfz104_1 := blk_frozen BK152.out 1
                                                          go_wp2_with (first | ((with_reducible refine gate_builtin (b := .append) (xs := #[.tmp 206, .tmp 208]) rfl ?_); (try (refine gate_guard (by rfl) ?_; dsimp only)); at_builtin; refine Kd.R_append k36 (w0 := w) w.heap.size rfl (.tmp 206) (.tmp 208) 26 36 (.agg #[(.int .u8 0), (.string ⟨#[]⟩)]) 24 rfl Try.underlying26 info36 rfl (by decide) (by omega) u8 x8_3 (⟨(bt (rdOf ByteArray.empty l1 x10_1) x15_3), rdOf ByteArray.empty l1 (ji100)⟩ : S36) [.int .u8 (bt (rdOf ByteArray.empty l1 x10_1) x15_3), .string (rdOf ByteArray.empty l1 (ji100))] (fun k_ => k_ ≠ gb152) (fun _ => False) rfl (by first | (go_simp; done) | (go_simp; rfl)) ?aP (fun _ hk => hk.elim) ?aF ?aO ?aB ?aS ?aL ?_; (case aP => exact k36_mkM _ _ _ (⟨(bt (rdOf ByteArray.empty l1 x10_1) x15_3), rdOf ByteArray.empty l1 (ji100)⟩ : S36)); (case aB => exact (by repeat (first | (with_reducible first | exact HB.out | apply below_alloc | apply pw_below_drewN | apply below_drew1 | refine below_set ?_ GE152.out) | exact HB.out))); (case aF => exact (fun k_ hk => Kd.freshB (g := gb152) (o := .cells #[.int .u8 (bt (rdOf ByteArray.empty l1 x10_1) x15_3), .string (rdOf ByteArray.empty l1 (ji100))] 36 (0, 0)) (by (with_reducible repeat (first | refine blk_drewN ?_ _ | refine blk_drew ?_ | refine blk_alloc ?_ _)); refine blk_put (cs := #[.int .u8 (bt (rdOf ByteArray.empty l1 x10_1) x15_3), .string (⟨#[]⟩ : ByteArray)]) ?_ 1 _ (by first | rfl | (simp; done)); (with_reducible repeat (first | refine blk_drewN ?_ _ | refine blk_drew ?_ | refine blk_alloc ?_ _)); exact BK152.out) k_ hk)); (case aO => exact (by (with_reducible repeat (first | apply Kd.R_alloc | apply Kd.R_drewN | apply Kd.R_drew)); exact Kd.R_mono (Kd.R_far (p := ⟨gb152, 1, none⟩) (Kd.R_mono HO_8.out (fun k_ hk => (⟨hk, hk⟩ : _ ∧ k_ ≠ gb152))) (fun _ hk => hk.2) (.string (rdOf ByteArray.empty l1 (ji100)))) (fun _ hk => hk.1))); (case aS => exact (below_size (by repeat (first | (with_reducible first | exact HB.out | apply below_alloc | apply pw_below_drewN | apply below_drew1 | refine below_set ?_ GE152.out) | exact HB.out)))); (case aL => have := LMc103.out; omega); intro v160 w105 ho hb hg hat; rw [← Ny159.out] at ho; have n0_ := Aside0.mk (Kd.R_over' (by (with_reducible repeat (first | apply Kd.R_alloc | apply Kd.R_drewN | apply Kd.R_drew)); exact (Kd.R_mono (Kd.R_far (p := ⟨gb152, 1, none⟩) (Kd.R_types HO_9.out BK152.out (by decide)) (fun _ hk => hk.2) (.string (rdOf ByteArray.empty l1 (ji100)))) (fun _ h_ => h_.1))) (Kd.R_typed (by (with_reducible repeat (first | apply Kd.R_alloc | apply Kd.R_drewN | apply Kd.R_drew)); exact (Kd.R_mono (Kd.R_far (p := ⟨gb152, 1, none⟩) (Kd.R_mono HO_8.out (fun k_ hk => (⟨hk, hk⟩ : _ ∧ k_ ≠ gb152))) (fun _ hk => hk.2) (.string (rdOf ByteArray.empty l1 (ji100)))) (fun _ h_ => h_.1)))) (by decide) hg); have n1_ := Aside0.mk (blk_grown (g := gb152) (o := .cells #[.int .u8 (bt (rdOf ByteArray.empty l1 x10_1) x15_3), .string (rdOf ByteArray.empty l1 (ji100))] 36 (0, 0)) (by (with_reducible repeat (first | refine blk_drewN ?_ _ | refine blk_drew ?_ | refine blk_alloc ?_ _)); refine blk_put (cs := #[.int .u8 (bt (rdOf ByteArray.empty l1 x10_1) x15_3), .string (⟨#[]⟩ : ByteArray)]) ?_ 1 _ (by first | rfl | (simp; done)); (with_reducible repeat (first | refine blk_drewN ?_ _ | refine blk_drew ?_ | refine blk_alloc ?_ _)); exact BK152.out) hg (Kd.R_away HO_8.out (fun _ hk => hk))); have n2_ := Aside0.mk (hb); have n3_ := Aside0.mk (ho); clear HO_9; clear BK152; clear HB; clear HO_8; have HO_9 := n0_; have BK152 := n1_; have HB := n2_; have HO161 := n3_; clear n0_ n1_ n2_ n3_; clear ho hb hg hat))
                                                          go_roundg kj81
                                                          case measure => have := HK1.out; have := HJ11.out; have := HK3.out; have := HJ70.out; have := HJ81.out; omega
                                                          case rel => exact ⟨(y159), (ji100), (wrap64 (x15_3 + 1)), (by first | rfl | (simp; done) | (simp only [← hji100] <;> (first | rfl | simp)) | (simp [*]; done)), (by first | rfl | (simp; done) | (simp [*]; done)), H', ⟨by have := HK1.out; have := HJ11.out; have := HK3.out; have := HJ70.out; have := HJ81.out; omega⟩, ⟨by (with_reducible repeat (first | apply Kd.R_alloc | apply Kd.R_drewN | apply Kd.R_drew)); exact Kd.R_mono HO161.out (fun _ hk => trivial)⟩, ⟨by (with_reducible repeat (first | apply Kd.R_alloc | apply Kd.R_drewN | apply Kd.R_drew)); exact HO_9.out⟩, ⟨by repeat (first | (with_reducible first | exact HB.out | apply below_alloc | apply pw_below_drewN | apply below_drew1 | refine below_set ?_ GE152.out) | exact HB.out)⟩⟩
                                                        · rw [if_neg c103] at H
                                                          exact absurd H (by simp)
                                                      · rw [if_neg c102] at H
                                                        exact absurd H (by simp)
                                                    · rw [if_neg c101] at H
                                                      exact absurd H (by simp)
                                                  · replace c99 := Bool.eq_false_iff.mpr c99
                                                    subst c99
                                                    have H1 : (if x8_3.length < 5864062014805 then (domesdayref13_Read.l2 kj81 l0 l1 (x8_3 ++ [(⟨(bt (rdOf ByteArray.empty l1 x10_1) x15_3), (⟨#[]⟩ : ByteArray)⟩ : S36)]) x9_1 x10_3 (rdOf ByteArray.empty l1 x10_1) (wrap64 (x15_3 + 1))) else (none)) = some (r1, r2, r3, r4) := by rw [if_neg (show ¬ (false = true) by decide)] at H; exact H
                                                    clear H
                                                    have H := H1
                                                    clear H1
                                                    by_cases c106 : x8_3.length < 5864062014805
                                                    · rw [if_pos c106] at H
                                                      have LMc106 := Aside0.mk c106
                                                      clear c106
                                                      obtain ⟨y162, hy162⟩ : ∃ y_ : List (S36), y_ = (x8_3 ++ [(⟨(bt (rdOf ByteArray.empty l1 x10_1) x15_3), (⟨#[]⟩ : ByteArray)⟩ : S36)]) := ⟨_, rfl⟩
                                                      replace H : (domesdayref13_Read.l2 kj81 l0 l1 y162 x9_1 x10_3 (rdOf ByteArray.empty l1 x10_1) (wrap64 (x15_3 + 1))) = some (r1, r2, r3, r4) := by first | (rw [hy162]; with_reducible exact H) | (have H2_ := (Option.bind_some _ _).symm.trans H; rw [hy162]; with_reducible exact H2_) | (have H2_ := (Option.bind_some _ _).symm.trans H; with_reducible exact H2_) | with_reducible exact H | (rw [hy162]; exact H) | exact H
                                                      have Ny162 := Aside0.mk hy162
                                                      clear hy162
                                                      have H' := Aside0.mk H
                                                      clear H
                                                      have p157 : 0 ≤ (t150 : Int) := of_decide_eq_true (by first | (with_reducible assumption) | assumption)
                                                      have q157 : t150 < (l0.length : Int) := of_decide_eq_true (by first | (with_reducible assumption) | assumption)
                                                      obtain ⟨ad157, e157, hx157_0, hx157_1, hx157_2⟩ := at_T42 HR0.out t150 p157 q157
                                                      (try rw [← Nbq98.out] at hx157_2)
                                                      cases e157
                                                      replace hx157_0 := (HB.out.cell (World.block_lt_of_cell? w _ hx157_0)).trans hx157_0
                                                      replace hx157_1 := (HB.out.cell (World.block_lt_of_cell? w _ hx157_1)).trans hx157_1
                                                      replace hx157_2 := (HB.out.cell (World.block_lt_of_cell? w _ hx157_2)).trans hx157_2
                                                      replace p157 := eq_true p157
                                                      replace q157 := eq_true q157
                                                      have hcz107_0 : wc.cell? ⟨gb152, 0, none⟩ = some (.int .u8 (bt (rdOf ByteArray.empty l1 x10_1) x15_3)) := (blk_cell BK152.out 0).trans rfl
                                                      have hcz107_1 : wc.cell? ⟨gb152, 1, none⟩ = some (.string (⟨#[]⟩ : ByteArray)) := (blk_cell BK152.out 1).trans rfl
                                                      have hfz107_0 := blk_frozen BK152.out 0
                                                      have hfz107_1 := blk_frozen BK152.out 1
                                                      go_wp2_with (first | ((with_reducible refine gate_builtin (b := .append) (xs := #[.tmp 206, .tmp 208]) rfl ?_); (try (refine gate_guard (by rfl) ?_; dsimp only)); at_builtin; refine Kd.R_append k36 (w0 := w) w.heap.size rfl (.tmp 206) (.tmp 208) 26 36 (.agg #[(.int .u8 0), (.string ⟨#[]⟩)]) 24 rfl Try.underlying26 info36 rfl (by decide) (by omega) u8 x8_3 (⟨(bt (rdOf ByteArray.empty l1 x10_1) x15_3), (⟨#[]⟩ : ByteArray)⟩ : S36) [.int .u8 (bt (rdOf ByteArray.empty l1 x10_1) x15_3), .string (⟨#[]⟩ : ByteArray)] (fun k_ => k_ ≠ gb152) (fun _ => False) rfl rfl ?aP (fun _ hk => hk.elim) ?aF ?aO ?aB ?aS ?aL ?_; (case aP => exact k36_mkM _ _ _ (⟨(bt (rdOf ByteArray.empty l1 x10_1) x15_3), (⟨#[]⟩ : ByteArray)⟩ : S36)); (case aB => exact (by repeat (first | (with_reducible first | exact HB.out | apply below_alloc | apply pw_below_drewN | apply below_drew1 | refine below_set ?_ GE152.out) | exact HB.out))); (case aF => exact (fun k_ hk => Kd.freshB (g := gb152) (o := .cells #[.int .u8 (bt (rdOf ByteArray.empty l1 x10_1) x15_3), .string (⟨#[]⟩ : ByteArray)] 36 (0, 0)) (by (with_reducible repeat (first | refine blk_drewN ?_ _ | refine blk_drew ?_ | refine blk_alloc ?_ _)); exact BK152.out) k_ hk)); (case aO => exact (by (with_reducible repeat (first | apply Kd.R_alloc | apply Kd.R_drewN | apply Kd.R_drew)); exact HO_8.out)); (case aS => exact (below_size (by repeat (first | (with_reducible first | exact HB.out | apply below_alloc | apply pw_below_drewN | apply below_drew1 | refine below_set ?_ GE152.out) | exact HB.out)))); (case aL => have := LMc106.out; omega); intro v163 w108 ho hb hg hat; rw [← Ny162.out] at ho; have n0_ := Aside0.mk (Kd.R_over' (by (with_reducible repeat (first | apply Kd.R_alloc | apply Kd.R_drewN | apply Kd.R_drew)); exact HO_9.out) (Kd.R_typed (by (with_reducible repeat (first | apply Kd.R_alloc | apply Kd.R_drewN | apply Kd.R_drew)); exact HO_8.out)) (by decide) hg); have n1_ := Aside0.mk (blk_grown (g := gb152) (o := .cells #[.int .u8 (bt (rdOf ByteArray.empty l1 x10_1) x15_3), .string (⟨#[]⟩ : ByteArray)] 36 (0, 0)) (by (with_reducible repeat (first | refine blk_drewN ?_ _ | refine blk_drew ?_ | refine blk_alloc ?_ _)); exact BK152.out) hg (Kd.R_away HO_8.out (fun _ hk => hk))); have n2_ := Aside0.mk (hb); have n3_ := Aside0.mk (ho); clear HO_9; clear BK152; clear HB; clear HO_8; have HO_9 := n0_; have BK152 := n1_; have HB := n2_; have HO164 := n3_; clear n0_ n1_ n2_ n3_; clear ho hb hg hat))
                                                      go_roundg kj81
                                                      case measure => have := HK1.out; have := HJ11.out; have := HK3.out; have := HJ70.out; have := HJ81.out; omega
                                                      case rel => exact ⟨(y162), (x10_3), (wrap64 (x15_3 + 1)), (by first | rfl | (simp; done) | (simp [*]; done)), (by first | rfl | (simp; done) | (simp [*]; done)), H', ⟨by have := HK1.out; have := HJ11.out; have := HK3.out; have := HJ70.out; have := HJ81.out; omega⟩, ⟨by (with_reducible repeat (first | apply Kd.R_alloc | apply Kd.R_drewN | apply Kd.R_drew)); exact Kd.R_mono HO164.out (fun _ hk => trivial)⟩, ⟨by (with_reducible repeat (first | apply Kd.R_alloc | apply Kd.R_drewN | apply Kd.R_drew)); exact HO_9.out⟩, ⟨by repeat (first | (with_reducible first | exact HB.out | apply below_alloc | apply pw_below_drewN | apply below_drew1 | refine below_set ?_ GE152.out) | exact HB.out)⟩⟩
                                                    · rw [if_neg c106] at H
                                                      exact absurd H (by simp)
                                                · rw [if_neg c97] at H
                                                  exact absurd H (by simp)
                                              · rw [if_neg c96] at H
                                                exact absurd H (by simp)
                                      · rw [if_neg c80] at H
                                        exact absurd H (by simp)
                                    · rw [if_neg c79] at H
                                      exact absurd H (by simp)
                           · rw [if_neg c68] at H
                             exact absurd H (by simp)
                         · rw [if_neg c67] at H
                           have c67b0 : decide (x15_3 < ((rdOf ByteArray.empty l1 x10_1).size : Int)) = false := decide_eq_false c67
                           clear c67
                           have H' := Aside0.mk H
                           clear H
                           go_wp2
                           go_roundg k3
                           case measure => have := HK1.out; have := HJ11.out; have := HK3.out; omega
                           case rel => exact ⟨(x8_3), (x9_1), (wrap64 (x10_3 + 1)), (by first | rfl | (simp; done) | (simp [*]; done)), H', ⟨by have := HK1.out; have := HJ11.out; have := HK3.out; omega⟩, ⟨by (with_reducible repeat (first | apply Kd.R_alloc | apply Kd.R_drewN | apply Kd.R_drew)); exact HO_8.out⟩, ⟨by (with_reducible repeat (first | apply Kd.R_alloc | apply Kd.R_drewN | apply Kd.R_drew)); exact HO_9.out⟩, ⟨by repeat (first | (with_reducible first | exact HB.out | apply below_alloc | apply pw_below_drewN | apply below_drew1) | exact HB.out)⟩⟩
        · rw [if_neg c4] at H
          exact absurd H (by simp)
      · rw [if_neg c3] at H
        have c3b0 : decide (x10_1 < (l1.length : Int)) = false := decide_eq_false c3
        clear c3
        simp only [Option.some.injEq, Prod.mk.injEq] at H
        obtain ⟨rfl, rfl, rfl, rfl⟩ := H
        go_wp2
        refine bodyPost_ret (results_list (rs := [.tmp 4, .tmp 5, .tmp 6, .tmp 7]) rfl (by simp) (.tmp (.tmp (.tmp (.tmp .nil))))) rfl ?_
        exact ⟨_, _, by first | rfl | (simp [errW_none, errW_some] <;> rfl) | (simp [*, errW_none, errW_some] <;> rfl), by (with_reducible repeat (first | apply Kd.R_alloc | apply Kd.R_drewN | apply Kd.R_drew)); exact HO_8.out, by (with_reducible repeat (first | apply Kd.R_alloc | apply Kd.R_drewN | apply Kd.R_drew)); exact HO_9.out, by repeat (first | (with_reducible first | exact HB.out | apply below_alloc | apply pw_below_drewN | apply below_drew1) | exact HB.out)⟩
end Go.Proofs.Ytljlhknpfnphnaa.QOpts
