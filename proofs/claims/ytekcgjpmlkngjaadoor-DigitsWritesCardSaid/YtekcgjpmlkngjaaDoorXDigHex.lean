/- strconv.FormatUint at the bases 8 and 16; digits.Oct, Hex. -/
import Derived.Test.YtekcgjpmlkngjaaDoorXDigE
import Derived.Test.YtekcgjpmlkngjaaDoorDigB
import Derived.Test.YtekcgjpmlkngjaaDoorVArr
import Derived.WalkKit
import Derived.WalkSpells
import Derived.Deep.QuietTactic
import Derived.BigQuiet
import Derived.Deep.DeepCutAuto
import Derived.Deep.CutBlock
import Derived.Lib.EndianBits
import Derived.Lib.ConvBytes
namespace Go.Proofs.YtekcgjpmlkngjaaDoor.Ext
open Go.RowKit Go.Shelf Go.Proofs.YtekcgjpmlkngjaaDoorW.PrintWords Go.Proofs.YtekcgjpmlkngjaaDoorW.PrintLast Go.Proofs.YtekcgjpmlkngjaaDoorW.PrintMore
set_option linter.unusedVariables false
set_option linter.unusedSimpArgs false
open Base (Tz)
theorem tz8_64 (w : World) (h : w.cell? ⟨7, 7, none⟩ = some (.int .u8 3)) : Calls Tryd.prog 72 #[.int .u64 8] w fun e w' => e = .returned (.int .i64 3) ∧ w' = w := by
  have e1 : IntKind.u64.wrap (-8) = 18446744073709551608 := by decide
  have e2 : bits .and .u64 8 18446744073709551608 = 8 := by decide
  go_enter Tryd.func72, Tryd.ntmps72
  go_wp2
  go_ret
  exact ⟨rfl, rfl⟩
theorem tz8 (w : World) (h : Tz w) : Calls Tryd.prog 67 #[.int .u64 8] w fun e w' => e = .returned (.int .i64 3) ∧ w' = w := by
  have HC := Aside0.mk (tz8_64 w h.1)
  clear h
  go_enter Tryd.func67, Tryd.ntmps67
  go_wp2_with (go_at_call 72; refine HC.out.mono ?_; rintro e w' ⟨rfl, rfl⟩)
  go_ret
  exact ⟨rfl, rfl⟩
theorem pow8 (w : World) : Calls Tryd.prog 66 #[.int .i64 8] w fun e w' => e = .returned (.bool true) ∧ w' = w := by
  have e2 : bits .and .i64 8 7 = 0 := by decide
  go_enter Tryd.func66, Tryd.ntmps66
  go_wp2
  go_ret
  exact ⟨rfl, rfl⟩
theorem tz16_64 (w : World) (h : w.cell? ⟨7, 15, none⟩ = some (.int .u8 4)) : Calls Tryd.prog 72 #[.int .u64 16] w fun e w' => e = .returned (.int .i64 4) ∧ w' = w := by
  have e1 : IntKind.u64.wrap (-16) = 18446744073709551600 := by decide
  have e2 : bits .and .u64 16 18446744073709551600 = 16 := by decide
  go_enter Tryd.func72, Tryd.ntmps72
  go_wp2
  go_ret
  exact ⟨rfl, rfl⟩
theorem tz16 (w : World) (h : Tz w) : Calls Tryd.prog 67 #[.int .u64 16] w fun e w' => e = .returned (.int .i64 4) ∧ w' = w := by
  have HC := Aside0.mk (tz16_64 w h.2)
  clear h
  go_enter Tryd.func67, Tryd.ntmps67
  go_wp2_with (go_at_call 72; refine HC.out.mono ?_; rintro e w' ⟨rfl, rfl⟩)
  go_ret
  exact ⟨rfl, rfl⟩
theorem pow16 (w : World) : Calls Tryd.prog 66 #[.int .i64 16] w fun e w' => e = .returned (.bool true) ∧ w' = w := by
  have e2 : bits .and .i64 16 15 = 0 := by decide
  go_enter Tryd.func66, Tryd.ntmps66
  go_wp2
  go_ret
  exact ⟨rfl, rfl⟩
abbrev S36 : ByteArray := ⟨#[48, 49, 50, 51, 52, 53, 54, 55, 56, 57, 97, 98, 99, 100, 101, 102, 103, 104, 105, 106, 107, 108, 109, 110, 111, 112, 113, 114, 115, 116, 117, 118, 119, 120, 121, 122]⟩
def cellsOf (i : Nat) (acc : List UInt8) : Array Value := (List.replicate i (Value.int .u8 0) ++ acc.map fun c => Value.int .u8 (c.toNat : Int)).toArray
/-- What the digits' row holds: those from place i on. -/
def FbAt (b F u0 : Nat) (w W : World) (u i : Nat) : Prop := ∃ (acc : List UInt8) (f : Nat), 1 ≤ f ∧ f ≤ i ∧ i + acc.length = 65 ∧ u < b ^ f ∧ u ≤ 18446744073709551615 ∧ DigB.digs b F u0 = DigB.digs b f u ++ acc ∧ W.heap[w.heap.size]? = some (.cells (cellsOf i acc) 91 (0, 0)) ∧ Below w.heap.size w W
theorem cells_put (i : Nat) (acc : List UInt8) (c : UInt8) : (cellsOf (i + 1) acc).setIfInBounds i (.int .u8 (c.toNat : Int)) = cellsOf i (c :: acc) := by
  apply Array.ext'
  simp only [cellsOf, Array.toList_setIfInBounds, List.toList_toArray]
  rw [List.replicate_succ', List.append_assoc, List.set_append_right _ _ (by simp)]
  simp
theorem fb_start (b F u0 : Nat) (w : World) (hF : 1 ≤ F) (hF2 : F ≤ 65) (hu : u0 < b ^ F) (hm : u0 ≤ 18446744073709551615) : FbAt b F u0 w (w.alloc (.cells Tryd.zeroCells91 91)) u0 65 := by
  refine ⟨[], F, hF, hF2, rfl, hu, hm, by simp, ?_, (Below.refl _ _).alloc (Nat.le_refl _) _⟩
  rw [heap_alloc_new]
  exact congrArg (fun z => some (Obj.cells z 91 (0, 0))) (by kernel_rfl)
theorem fb_step {b F u0 u i : Nat} {w W : World} (hb : 2 ≤ b) (h : FbAt b F u0 w W u i) (hu : b ≤ u) : FbAt b F u0 w (W.setCell ⟨w.heap.size, i - 1, none⟩ (.int .u8 ((DigB.dg (u % b)).toNat : Int))) (u / b) (i - 1) := by
  obtain ⟨acc, f, h1, h2, h3, h4, hm, h5, h6, h7⟩ := h
  obtain ⟨f, rfl⟩ : ∃ m, f = m + 1 := ⟨f - 1, by omega⟩
  obtain ⟨i, rfl⟩ : ∃ m, i = m + 1 := ⟨i - 1, by omega⟩
  have hf : 1 ≤ f := by
    rcases Nat.eq_zero_or_pos f with rfl | h'
    · rw [Nat.zero_add, Nat.pow_one] at h4; omega
    · exact h'
  rw [Nat.add_sub_cancel]
  refine ⟨DigB.dg (u % b) :: acc, f, hf, by omega, by simp; omega, DigB.div_lt_pow hb h4, Nat.le_trans (Nat.div_le_self _ _) hm, ?_, ?_, h7.setCell (Nat.le_refl _) _⟩
  · rw [h5, DigB.digs, if_neg (by omega)]; simp
  · exact blk_put h6 i _ (cells_put i acc _)
/-- The last digit is put: the digits stand. -/
theorem fb_last {b F u0 u i : Nat} {w W : World} (h : FbAt b F u0 w W u i) (hu : u < b) : 1 ≤ i ∧ i ≤ 65 ∧ (DigB.digs b F u0).length = 65 - (i - 1) ∧ (W.setCell ⟨w.heap.size, i - 1, none⟩ (.int .u8 ((DigB.dg u).toNat : Int))).heap[w.heap.size]? = some (.cells (cellsOf (i - 1) (DigB.digs b F u0)) 91 (0, 0)) ∧ Below w.heap.size w (W.setCell ⟨w.heap.size, i - 1, none⟩ (.int .u8 ((DigB.dg u).toNat : Int))) := by
  obtain ⟨acc, f, h1, h2, h3, h4, hm, h5, h6, h7⟩ := h
  obtain ⟨f, rfl⟩ : ∃ m, f = m + 1 := ⟨f - 1, by omega⟩
  obtain ⟨i, rfl⟩ : ∃ m, i = m + 1 := ⟨i - 1, by omega⟩
  rw [Nat.add_sub_cancel]
  rw [DigB.digs, if_pos hu] at h5
  refine ⟨by omega, by omega, by rw [h5]; simp; omega, ?_, h7.setCell (Nat.le_refl _) _⟩
  rw [h5]
  exact blk_put h6 i _ (cells_put i acc _)
theorem fb_cell {b F u0 u i : Nat} {w W : World} (h : FbAt b F u0 w W u i) : 1 ≤ i ∧ i ≤ 65 ∧ W.cell? ⟨w.heap.size, i - 1, none⟩ = some (.int .u8 0) ∧ W.frozen? ⟨w.heap.size, i - 1, none⟩ = false := by
  obtain ⟨acc, f, h1, h2, h3, h4, hm, h5, h6, h7⟩ := h
  refine ⟨by omega, by omega, ?_, blk_frozen h6 _⟩
  rw [blk_cell h6]
  simp only [cellsOf, List.getElem?_toArray]
  rw [List.getElem?_append_left (by simp; omega), List.getElem?_replicate_of_lt (by omega)]
theorem dig_idx : ∀ (r : Fin 16) , (S36.get! r.val) = DigB.dg r.val := by decide +kernel
theorem idx_run (r : Nat) (hr : r < 16) (W : World) : (Instr.index 9 (.string S36) (.int .u64 (r : Int))).run Tryd.prog W = .ok (.int .u8 ((DigB.dg r).toNat : Int)) W := by
  have hz : S36.size = 36 := by decide
  rw [run_index_string W 9 S36 .u64 (r : Int) Tryd.underlying9, dif_pos ⟨by omega, by rw [hz]; omega⟩, ← dig_idx ⟨r, hr⟩]
  have h2 : r < S36.size := by rw [hz]; omega
  congr 3
  rw [show (⟨r, hr⟩ : Fin 16).val = r from rfl]
  simp only [Int.toNat_natCast]
  show (S36.data[r]'h2).toNat = (S36.data[r]!).toNat
  rw [getElem!_pos S36.data r h2]
theorem conv_run (g i : Nat) (l : List UInt8) (W : World) (hW : W.heap[g]? = some (.cells (cellsOf i l) 91 (0, 0))) (cap : Nat) : (convert 61 9 (.slice (some ⟨g, i, none⟩) l.length cap)).run Tryd.prog W = .ok (.string ⟨l.toArray⟩) W := by
  have h := run_convert_bytes_back (P := Tryd.prog) W 61 9 5 ⟨g, i, none⟩ cap l Tryd.underlying61 Tryd.underlying5 Tryd.underlying9 (fun j hj => by
    rw [add_at0, blk_cell hW]
    simp only [cellsOf, List.getElem?_toArray]
    rw [List.getElem?_append_right (by simp)]
    simp [hj])
  exact h
set_option maxHeartbeats 4000000 in
set_option maxRecDepth 100000 in
theorem fb8_calls (u0 : Nat) (hu : u0 ≤ 18446744073709551615) (w : World) (HT : Tz w) :
    Calls Tryd.prog 54 #[.slice none 0 0, .int .u64 (u0 : Int), .int .i64 8, .bool false, .bool false] w fun e w' => e = .returned (.tuple #[.slice none 0 0, .string ⟨(DigB.digs 8 22 u0).toArray⟩]) ∧ Below w.heap.size w w' := by
  have hw0 : Tz (w.alloc (.cells Tryd.zeroCells91 91)) := ⟨pw_cell_below ((Below.refl _ w).alloc (Nat.le_refl _) _) HT.1, pw_cell_below ((Below.refl _ w).alloc (Nat.le_refl _) _) HT.2⟩
  have HTA : Aside0 _ := Aside0.mk hw0
  have HS : Aside0 _ := Aside0.mk (fb_start 8 22 u0 w (by decide) (by decide) (by rw [show (8 : Nat) ^ 22 = 73786976294838206464 by decide]; omega) hu)
  clear HT hu hw0
  go_enter Tryd.func54, Tryd.ntmps54
  go_upto_block 0 with (first | (go_at_call 66; refine (pow8 _).mono ?_; rintro e w' ⟨rfl, rfl⟩) | (go_at_call 67; refine (tz8 _ HTA.out).mono ?_; rintro e w' ⟨rfl, rfl⟩))
  go_cut [1, 13] (fun x y wx => ∃ u i : Nat, x = .int .u64 u ∧ y = .int .i64 i ∧ u < 8 ∧ Aside0 (FbAt 8 22 u0 w wx u i))
  case first =>
    go_wp2_with fail
    go_loopw [1, 13] (fun x y wx => ∃ u i : Nat, x = .int .u64 u ∧ y = .int .i64 i ∧ Aside0 (FbAt 8 22 u0 w wx u i)) (fun x _ _ => (RowKit.intOf x).toNat)
    case atStart => exact ⟨u0, 65, rfl, rfl, HS⟩
    case round =>
      obtain ⟨u, i, rfl, rfl, HI⟩ := hrel
      by_cases hgo : (8 : Int) ≤ (u : Int)
      · obtain ⟨k1, k2, k3, k4⟩ := fb_cell HI.out
        have e1 : wrap64 ((i : Int) - 1) = ((i - 1 : Nat) : Int) := by unfold wrap64; omega
        have e2 : bits .and .u64 (u : Int) 7 = ((u % 8 : Nat) : Int) := by
          obtain ⟨_, _, _, _, _, _, hm, _⟩ := HI.out
          have := bits_mask .u64 64 (by decide) wraps_u64 3 (by decide) (u : Int) (by omega) (by omega)
          rw [show (7 : Int) = 2 ^ 3 - 1 by decide, this]; omega
        have e3 := fun W => idx_run (u % 8) (by omega) W
        have e4 : (u : Int) / 8 = ((u / 8 : Nat) : Int) := by omega
        have e5 := add_at0 w.heap.size 0
        have HM := Aside0.mk (show u / 8 < u by omega)
        have HN := Aside0.mk (fb_step (by decide) HI.out (by omega : 8 ≤ u))
        generalize u % 8 = r at *
        generalize u / 8 = u' at *
        generalize hi' : i - 1 = i' at *
        have b1 : (0 : Int) ≤ (i' : Int) := by omega
        have b2 : (i' : Int) < 65 := by omega
        have b3 : i' < 65 := by omega
        clear hi' k1 k2
        go_wp2_with fail
        exact ⟨⟨u', i', rfl, by rw [e1], Aside0.mk HN.out⟩, by have := HM.out; simp [RowKit.intOf]; omega⟩
      · have HU : u < 8 := by omega
        go_wp2_with fail
        go_meet
        exact ⟨u, i, rfl, rfl, HU, HI⟩
  case rest =>
    obtain ⟨u, i, rfl, rfl, hu, HI⟩ := hcut
    obtain ⟨-, -, k3, k4⟩ := fb_cell HI.out
    obtain ⟨k1, k2, k5, k6, k7⟩ := fb_last HI.out hu
    have e1 : wrap64 ((i : Int) - 1) = ((i - 1 : Nat) : Int) := by unfold wrap64; omega
    have e3 := fun W => idx_run u (by omega) W
    have e5 := add_at0 w.heap.size 0
    have e6 := conv_run w.heap.size (i - 1) _ _ k6
    rw [k5] at e6
    have e7 : ∀ W : World, (Instr.sliceAt 91 (.pointer (some ⟨w.heap.size, 0, none⟩)) (some (.int .i64 ((i - 1 : Nat) : Int))) none none).run Tryd.prog W = .ok (.slice (some ⟨w.heap.size, i - 1, none⟩) (65 - (i - 1)) (65 - (i - 1))) W := fun W => by
      have hal : Tryd.prog.arrayLen 91 = 65 := by kernel_rfl
      rw [run_sliceAt_array_l W 91 ⟨w.heap.size, 0, none⟩ (by kernel_rfl) .i64 ((i - 1 : Nat) : Int) (by omega) (by rw [hal]; omega), hal]
      go_simp
      omega
    have HB := Aside0.mk k7
    generalize hi' : i - 1 = i' at *
    have b1 : (0 : Int) ≤ (i' : Int) := by omega
    have b2 : (i' : Int) < 65 := by omega
    have b3 : i' < 65 := by omega
    clear hi' k1 k2 k5 k6 k7
    go_wp2_with fail
    go_ret2
    exact ⟨rfl, HB.out⟩
set_option maxHeartbeats 4000000 in
set_option maxRecDepth 100000 in
theorem fb16_calls (u0 : Nat) (hu : u0 ≤ 18446744073709551615) (w : World) (HT : Tz w) :
    Calls Tryd.prog 54 #[.slice none 0 0, .int .u64 (u0 : Int), .int .i64 16, .bool false, .bool false] w fun e w' => e = .returned (.tuple #[.slice none 0 0, .string ⟨(DigB.digs 16 16 u0).toArray⟩]) ∧ Below w.heap.size w w' := by
  have hw0 : Tz (w.alloc (.cells Tryd.zeroCells91 91)) := ⟨pw_cell_below ((Below.refl _ w).alloc (Nat.le_refl _) _) HT.1, pw_cell_below ((Below.refl _ w).alloc (Nat.le_refl _) _) HT.2⟩
  have HTA : Aside0 _ := Aside0.mk hw0
  have HS : Aside0 _ := Aside0.mk (fb_start 16 16 u0 w (by decide) (by decide) (by rw [show (16 : Nat) ^ 16 = 18446744073709551616 by decide]; omega) hu)
  clear HT hu hw0
  go_enter Tryd.func54, Tryd.ntmps54
  go_upto_block 0 with (first | (go_at_call 66; refine (pow16 _).mono ?_; rintro e w' ⟨rfl, rfl⟩) | (go_at_call 67; refine (tz16 _ HTA.out).mono ?_; rintro e w' ⟨rfl, rfl⟩))
  go_cut [1, 13] (fun x y wx => ∃ u i : Nat, x = .int .u64 u ∧ y = .int .i64 i ∧ u < 16 ∧ Aside0 (FbAt 16 16 u0 w wx u i))
  case first =>
    go_wp2_with fail
    go_loopw [1, 13] (fun x y wx => ∃ u i : Nat, x = .int .u64 u ∧ y = .int .i64 i ∧ Aside0 (FbAt 16 16 u0 w wx u i)) (fun x _ _ => (RowKit.intOf x).toNat)
    case atStart => exact ⟨u0, 65, rfl, rfl, HS⟩
    case round =>
      obtain ⟨u, i, rfl, rfl, HI⟩ := hrel
      by_cases hgo : (16 : Int) ≤ (u : Int)
      · obtain ⟨k1, k2, k3, k4⟩ := fb_cell HI.out
        have e1 : wrap64 ((i : Int) - 1) = ((i - 1 : Nat) : Int) := by unfold wrap64; omega
        have e2 : bits .and .u64 (u : Int) 15 = ((u % 16 : Nat) : Int) := by
          obtain ⟨_, _, _, _, _, _, hm, _⟩ := HI.out
          have := bits_mask .u64 64 (by decide) wraps_u64 4 (by decide) (u : Int) (by omega) (by omega)
          rw [show (15 : Int) = 2 ^ 4 - 1 by decide, this]; omega
        have e3 := fun W => idx_run (u % 16) (by omega) W
        have e4 : (u : Int) / 16 = ((u / 16 : Nat) : Int) := by omega
        have e5 := add_at0 w.heap.size 0
        have HM := Aside0.mk (show u / 16 < u by omega)
        have HN := Aside0.mk (fb_step (by decide) HI.out (by omega : 16 ≤ u))
        generalize u % 16 = r at *
        generalize u / 16 = u' at *
        generalize hi' : i - 1 = i' at *
        have b1 : (0 : Int) ≤ (i' : Int) := by omega
        have b2 : (i' : Int) < 65 := by omega
        have b3 : i' < 65 := by omega
        clear hi' k1 k2
        go_wp2_with fail
        exact ⟨⟨u', i', rfl, by rw [e1], Aside0.mk HN.out⟩, by have := HM.out; simp [RowKit.intOf]; omega⟩
      · have HU : u < 16 := by omega
        go_wp2_with fail
        go_meet
        exact ⟨u, i, rfl, rfl, HU, HI⟩
  case rest =>
    obtain ⟨u, i, rfl, rfl, hu, HI⟩ := hcut
    obtain ⟨-, -, k3, k4⟩ := fb_cell HI.out
    obtain ⟨k1, k2, k5, k6, k7⟩ := fb_last HI.out hu
    have e1 : wrap64 ((i : Int) - 1) = ((i - 1 : Nat) : Int) := by unfold wrap64; omega
    have e3 := fun W => idx_run u (by omega) W
    have e5 := add_at0 w.heap.size 0
    have e6 := conv_run w.heap.size (i - 1) _ _ k6
    rw [k5] at e6
    have e7 : ∀ W : World, (Instr.sliceAt 91 (.pointer (some ⟨w.heap.size, 0, none⟩)) (some (.int .i64 ((i - 1 : Nat) : Int))) none none).run Tryd.prog W = .ok (.slice (some ⟨w.heap.size, i - 1, none⟩) (65 - (i - 1)) (65 - (i - 1))) W := fun W => by
      have hal : Tryd.prog.arrayLen 91 = 65 := by kernel_rfl
      rw [run_sliceAt_array_l W 91 ⟨w.heap.size, 0, none⟩ (by kernel_rfl) .i64 ((i - 1 : Nat) : Int) (by omega) (by rw [hal]; omega), hal]
      go_simp
      omega
    have HB := Aside0.mk k7
    generalize hi' : i - 1 = i' at *
    have b1 : (0 : Int) ≤ (i' : Int) := by omega
    have b2 : (i' : Int) < 65 := by omega
    have b3 : i' < 65 := by omega
    clear hi' k1 k2 k5 k6 k7
    go_wp2_with fail
    go_ret2
    exact ⟨rfl, HB.out⟩
theorem FormatUint8 (u0 : Nat) (hu : u0 ≤ 18446744073709551615) (w : World) (HT : Tz w) (k : Nat) (hk : k = 38 ∨ k = 32) :
    Calls Tryd.prog k #[.int .u64 (u0 : Int), .int .i64 8] w fun e w' => e = .returned (.string ⟨(DigB.digs 8 22 u0).toArray⟩) ∧ Below w.heap.size w w' := by
  have H38 : ∀ w, Tz w → Calls Tryd.prog 38 #[.int .u64 (u0 : Int), .int .i64 8] w fun e w' => e = .returned (.string ⟨(DigB.digs 8 22 u0).toArray⟩) ∧ Below w.heap.size w w' := fun w HT => by
    have HC := Aside0.mk (fb8_calls u0 hu w HT)
    clear HT hu hk
    go_enter Tryd.func38, Tryd.ntmps38
    go_wp2_with (go_at_call 54; refine HC.out.mono ?_; rintro e w' ⟨rfl, hb⟩)
    go_ret
    exact ⟨rfl, hb⟩
  rcases hk with rfl | rfl
  · exact H38 w HT
  · have HC := Aside0.mk (H38 w HT)
    clear H38 HT hu
    go_enter Tryd.func32, Tryd.ntmps32
    go_wp2_with (go_at_call 38; refine HC.out.mono ?_; rintro e w' ⟨rfl, hb⟩)
    go_ret
    exact ⟨rfl, hb⟩
theorem FormatUint16 (u0 : Nat) (hu : u0 ≤ 18446744073709551615) (w : World) (HT : Tz w) (k : Nat) (hk : k = 38 ∨ k = 32) :
    Calls Tryd.prog k #[.int .u64 (u0 : Int), .int .i64 16] w fun e w' => e = .returned (.string ⟨(DigB.digs 16 16 u0).toArray⟩) ∧ Below w.heap.size w w' := by
  have H38 : ∀ w, Tz w → Calls Tryd.prog 38 #[.int .u64 (u0 : Int), .int .i64 16] w fun e w' => e = .returned (.string ⟨(DigB.digs 16 16 u0).toArray⟩) ∧ Below w.heap.size w w' := fun w HT => by
    have HC := Aside0.mk (fb16_calls u0 hu w HT)
    clear HT hu hk
    go_enter Tryd.func38, Tryd.ntmps38
    go_wp2_with (go_at_call 54; refine HC.out.mono ?_; rintro e w' ⟨rfl, hb⟩)
    go_ret
    exact ⟨rfl, hb⟩
  rcases hk with rfl | rfl
  · exact H38 w HT
  · have HC := Aside0.mk (H38 w HT)
    clear H38 HT hu
    go_enter Tryd.func32, Tryd.ntmps32
    go_wp2_with (go_at_call 38; refine HC.out.mono ?_; rintro e w' ⟨rfl, hb⟩)
    go_ret
    exact ⟨rfl, hb⟩
theorem Oct_calls (u0 : Nat) (hu : u0 ≤ 18446744073709551615) (w : World) (HT : Tz w) : Calls Tryd.prog 21 #[.int .u64 (u0 : Int)] w fun e w' => e = .returned (.string ⟨(DigB.digs 8 22 u0).toArray⟩) ∧ Below w.heap.size w w' := by
  have HC := Aside0.mk (FormatUint8 u0 hu w HT 32 (.inr rfl))
  clear HT hu
  go_enter Tryd.func21, Tryd.ntmps21
  go_wp2_with (go_at_call 32; refine HC.out.mono ?_; rintro e w' ⟨rfl, hb⟩)
  go_ret
  exact ⟨rfl, hb⟩
def digits_Oct.f (m : Int) : Option ByteArray := if 0 ≤ m ∧ m ≤ 18446744073709551615 then some ⟨(DigB.digs 8 22 m.toNat).toArray⟩ else none
theorem digits_Oct.calls (a0 : Int) (r : ByteArray) (w : World) (h : digits_Oct.f a0 = some r) (HE : Env w) :
    Calls Tryd.prog 21 #[.int .u64 a0] w fun e w' => e = .returned (.string r) ∧ Below w.heap.size w w' := by
  unfold digits_Oct.f at h
  split at h
  · rename_i g
    obtain rfl := Option.some.inj h
    obtain ⟨n, rfl⟩ : ∃ n : Nat, a0 = n := ⟨a0.toNat, by omega⟩
    exact Oct_calls n (by omega) w HE.2.2.2
  · cases h
theorem Hex_calls (u0 : Nat) (hu : u0 ≤ 18446744073709551615) (w : World) (HT : Tz w) : Calls Tryd.prog 23 #[.int .u64 (u0 : Int)] w fun e w' => e = .returned (.string ⟨(DigB.digs 16 16 u0).toArray⟩) ∧ Below w.heap.size w w' := by
  have HC := Aside0.mk (FormatUint16 u0 hu w HT 32 (.inr rfl))
  clear HT hu
  go_enter Tryd.func23, Tryd.ntmps23
  go_wp2_with (go_at_call 32; refine HC.out.mono ?_; rintro e w' ⟨rfl, hb⟩)
  go_ret
  exact ⟨rfl, hb⟩
def digits_Hex.f (m : Int) : Option ByteArray := if 0 ≤ m ∧ m ≤ 18446744073709551615 then some ⟨(DigB.digs 16 16 m.toNat).toArray⟩ else none
theorem digits_Hex.calls (a0 : Int) (r : ByteArray) (w : World) (h : digits_Hex.f a0 = some r) (HE : Env w) :
    Calls Tryd.prog 23 #[.int .u64 a0] w fun e w' => e = .returned (.string r) ∧ Below w.heap.size w w' := by
  unfold digits_Hex.f at h
  split at h
  · rename_i g
    obtain rfl := Option.some.inj h
    obtain ⟨n, rfl⟩ : ∃ n : Nat, a0 = n := ⟨a0.toNat, by omega⟩
    exact Hex_calls n (by omega) w HE.2.2.2
  · cases h
end Go.Proofs.YtekcgjpmlkngjaaDoor.Ext
