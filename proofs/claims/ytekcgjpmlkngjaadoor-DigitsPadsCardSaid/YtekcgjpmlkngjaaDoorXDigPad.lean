/- digits.column, blanks, Left, Right: what lacks, as blanks (complex numbers of two whole parts). -/
import Derived.Test.YtekcgjpmlkngjaaDoorXDigT
import Derived.Test.YtekcgjpmlkngjaaDoorFloatInts
import Derived.Test.YtekcgjpmlkngjaaDoorVArr
import Derived.WalkKit
import Derived.WalkLawsBesides
import Derived.Deep.QuietTactic
import Derived.BigQuiet
namespace Go.Proofs.YtekcgjpmlkngjaaDoor.Ext
open Go.RowKit Go.Shelf Go.Lib Go.Proofs.YtekcgjpmlkngjaaDoorW.PrintWords Go.Proofs.YtekcgjpmlkngjaaDoorW.PrintLast Go.Proofs.YtekcgjpmlkngjaaDoorW.PrintMore
attribute [local go_sem] max2_int min2_int max_two min_two max_three min_three max_four min_four   -- for this text's walks alone
set_option linter.unusedVariables false
set_option linter.unusedSimpArgs false

/-- A width, as it is counted. -/
def clip (a : Int) : Nat := (mn (mx a 0) 10000).toNat
theorem clip_le (a : Int) : clip a ≤ 10000 := by unfold clip mn mx; omega
theorem clip_of (a : Int) : mn (mx a 0) 10000 = (clip a : Int) := by unfold clip mn mx; omega
theorem column_calls (a b : Int) (w : World) :
    Calls Tryd.prog 29 #[.int .i64 a, .int .i64 b] w fun e w' => e = .returned (.complex .f64 (floatOfInt .f64 (clip a)) (floatOfInt .f64 (clip b))) ∧ w' = w := by
  have ha := clip_of a
  have hb := clip_of b
  obtain ⟨ca, hca⟩ : ∃ c, (if a < 0 then 0 else a) = c := ⟨_, rfl⟩
  obtain ⟨cb, hcb⟩ : ∃ c, (if b < 0 then 0 else b) = c := ⟨_, rfl⟩
  unfold mn mx at ha hb
  rw [hca] at ha
  rw [hcb] at hb
  go_enter Tryd.func29, Tryd.ntmps29
  go_wp2
  go_ret
  exact ⟨rfl, rfl⟩
def blankB (n : Nat) : ByteArray := ⟨(List.replicate n 32).toArray⟩
theorem repeat_blank (n : Nat) : (Lib.repeatL (⟨#[32]⟩ : ByteArray).data.toList n) = List.replicate n 32 := by
  induction n with
  | zero => rfl
  | succ n ih => show (32 : UInt8) :: Lib.repeatL _ n = _; rw [ih]; rfl
/-- How many blanks. -/
def lackN (n m : Nat) : Nat := m - n
theorem lack_of (n m : Nat) : (if (m : Int) - n < 0 then 0 else (m : Int) - n) = (lackN n m : Int) := by unfold lackN; split <;> omega
theorem blanks_calls (n m : Nat) (hn : n ≤ 10000) (hm : m ≤ 10000) (w : World) :
    Calls Tryd.prog 28 #[.complex .f64 (floatOfInt .f64 n) (floatOfInt .f64 m)] w fun e w' => e = .returned (.string (blankB (lackN n m))) ∧ Below w.heap.size w w' := by
  obtain ⟨r, hr, hi⟩ := FloatInts.sub_int m n (by omega) (by omega)
  have h1 : ∀ w : World, (binOp .sub 55 (.float .f64 (floatOfInt .f64 m)) (.float .f64 (floatOfInt .f64 n))).run Tryd.prog w = .ok (.float .f64 r) w := fun w => run_float_arith w .sub 55 .f64 _ _ r hr
  have h2 : ∀ w : World, (convert 55 3 (.float .f64 r)).run Tryd.prog w = .ok (.int .i64 ((m : Int) - n)) w := fun w => run_convert_float_int w 55 3 .f64 .i64 r _ (by kernel_rfl) Tryd.underlying3 hi
  have hl := lack_of n m
  have hx2 : lackN n m ≤ 10000 := by unfold lackN; omega
  have HR : Aside0 (∀ w, Calls Tryd.prog 34 #[.string ⟨#[32]⟩, .int .i64 (lackN n m : Int)] w fun e w' => e = .returned (.string (blankB (lackN n m))) ∧ Below w.heap.size w w') := Aside0.mk fun w => by
    refine (Tryd.strings_Repeat ⟨#[32]⟩ (lackN n m) w (by omega) (by show 1 * _ ≤ _; omega)).mono ?_
    rintro e w' ⟨rfl, hb⟩
    exact ⟨by rw [repeat_blank]; rfl, hb⟩
  clear hr hi hx2
  generalize lackN n m = k at *
  go_enter Tryd.func28, Tryd.ntmps28
  go_wp2_with (go_at_call 34; refine (HR.out _).mono ?_; rintro e w' ⟨rfl, hb⟩)
  go_ret
  exact ⟨rfl, hb⟩
theorem Left_calls (s : ByteArray) (a b : Int) (w : World) (hs : s.size ≤ 1000000) :
    Calls Tryd.prog 16 #[.string s, .int .i64 a, .int .i64 b] w fun e w' => e = .returned (.string (s ++ blankB (lackN (clip a) (clip b)))) ∧ Below w.heap.size w w' := by
  have h1 := clip_le a
  have h2 := clip_le b
  have hB : s.size + (blankB (lackN (clip a) (clip b))).size ≤ 9223372036854775807 := by
    have : (blankB (lackN (clip a) (clip b))).size = lackN (clip a) (clip b) := by simp [blankB, ByteArray.size]
    unfold lackN at this ⊢; omega
  have HC := fun w => Aside0.mk (blanks_calls (clip a) (clip b) h1 h2 w)
  have HD := fun w => Aside0.mk (column_calls a b w)
  clear h1 h2
  generalize blankB (lackN (clip a) (clip b)) = B at *
  generalize clip a = n at *
  generalize clip b = m at *
  go_enter Tryd.func16, Tryd.ntmps16
  go_wp2_with (first | (go_at_call 29; refine (HD _).out.mono ?_; rintro e w' ⟨rfl, rfl⟩) | (go_at_call 28; refine (HC _).out.mono ?_; rintro e w' ⟨rfl, hb⟩))
  go_ret
  exact ⟨rfl, hb⟩
theorem Right_calls (s : ByteArray) (a b : Int) (w : World) (hs : s.size ≤ 1000000) :
    Calls Tryd.prog 17 #[.string s, .int .i64 a, .int .i64 b] w fun e w' => e = .returned (.string (blankB (lackN (clip a) (clip b)) ++ s)) ∧ Below w.heap.size w w' := by
  have h1 := clip_le a
  have h2 := clip_le b
  have hB : (blankB (lackN (clip a) (clip b))).size + s.size ≤ 9223372036854775807 := by
    have : (blankB (lackN (clip a) (clip b))).size = lackN (clip a) (clip b) := by simp [blankB, ByteArray.size]
    unfold lackN at this ⊢; omega
  have HC := fun w => Aside0.mk (blanks_calls (clip a) (clip b) h1 h2 w)
  have HD := fun w => Aside0.mk (column_calls a b w)
  clear h1 h2
  generalize blankB (lackN (clip a) (clip b)) = B at *
  generalize clip a = n at *
  generalize clip b = m at *
  go_enter Tryd.func17, Tryd.ntmps17
  go_wp2_with (first | (go_at_call 29; refine (HD _).out.mono ?_; rintro e w' ⟨rfl, rfl⟩) | (go_at_call 28; refine (HC _).out.mono ?_; rintro e w' ⟨rfl, hb⟩))
  go_ret
  exact ⟨rfl, hb⟩
def digits_Left.f (s : ByteArray) (a b : Int) : Option ByteArray := if s.size ≤ 1000000 then some (s ++ blankB (lackN (clip a) (clip b))) else none
theorem digits_Left.calls (a0 : ByteArray) (a1 a2 : Int) (r : ByteArray) (w : World) (h : digits_Left.f a0 a1 a2 = some r) :
    Calls Tryd.prog 16 #[.string a0, .int .i64 a1, .int .i64 a2] w fun e w' => e = .returned (.string r) ∧ Below w.heap.size w w' := by
  unfold digits_Left.f at h
  split at h
  · obtain rfl := Option.some.inj h; exact Left_calls a0 a1 a2 w ‹_›
  · cases h
def digits_Right.f (s : ByteArray) (a b : Int) : Option ByteArray := if s.size ≤ 1000000 then some (blankB (lackN (clip a) (clip b)) ++ s) else none
theorem digits_Right.calls (a0 : ByteArray) (a1 a2 : Int) (r : ByteArray) (w : World) (h : digits_Right.f a0 a1 a2 = some r) :
    Calls Tryd.prog 17 #[.string a0, .int .i64 a1, .int .i64 a2] w fun e w' => e = .returned (.string r) ∧ Below w.heap.size w w' := by
  unfold digits_Right.f at h
  split at h
  · obtain rfl := Option.some.inj h; exact Right_calls a0 a1 a2 w ‹_›
  · cases h
end Go.Proofs.YtekcgjpmlkngjaaDoor.Ext
