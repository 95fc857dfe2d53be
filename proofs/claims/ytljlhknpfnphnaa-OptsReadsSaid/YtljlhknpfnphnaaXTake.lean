/- The reader's taker; slices.Grow and slices.Concat of two rows of strings. -/
import Derived.Test.YtljlhknpfnphnaaXLetters
import Derived.Test.YtljlhknpfnphnaaWZeros
namespace Go.Proofs.Ytljlhknpfnphnaa.QOpts
open Go.RowKit Go.Lib Go.Proofs.YtljlhknpfnphnaaW.PrintWords Go.Proofs.YtljlhknpfnphnaaW.PrintLast Go.Proofs.YtljlhknpfnphnaaW.PrintMore
set_option linter.unusedVariables false
set_option linter.unusedSimpArgs false

/-- What takes an argument: 26 long, 27 letters, 28 operand. -/
def kindOf (arg : ByteArray) : Nat :=
  if beginsB arg ⟨#[45, 45]⟩ = true then 26 else if 1 < arg.size ∧ bt arg 0 = 45 then 27 else 28
def TakePost (g k : Nat) (w : World) (e : Ending) (w' : World) : Prop := e = .returned (.func (.func k) #[.pointer (some ⟨g, 0, none⟩)] #[]) ∧ ∃ n, w' = w.drewN n
set_option maxHeartbeats 1000000 in
theorem taker_calls (g : Nat) (arg : ByteArray) (w : World) : Calls Try.prog 16 #[.pointer (some ⟨g, 0, none⟩), .string arg] w (TakePost g (kindOf arg) w) := by
  have cH := fun W => Try.strings_HasPrefix arg ⟨#[45, 45]⟩ W
  unfold kindOf beginsB
  cases hp : Lib.hasPrefix arg.data.toList (⟨#[45, 45]⟩ : ByteArray).data.toList
  · rw [hp] at cH
    simp only [Bool.false_eq_true, if_false]
    by_cases h1 : 1 < arg.size
    · have n1 : (1 : Int) < (arg.size : Int) := by omega
      have h0 : 0 < arg.size := by omega
      have hx : ((arg[0]'h0).toNat : Int) = bt arg 0 := bt_at arg 0 h0
      by_cases h2 : bt arg 0 = 45
      · rw [if_pos ⟨h1, h2⟩]
        go_enter Try.func16, Try.ntmps16
        go_wp2_with (go_at_call 25; refine (cH _).mono ?_; rintro e w' ⟨rfl, rfl⟩)
        go_ret
        exact ⟨rfl, 0, rfl⟩
      · rw [if_neg (fun h => h2 h.2)]
        have n2 : (bt arg 0 == 45) = false := beq_eq_false_iff_ne.2 h2
        go_enter Try.func16, Try.ntmps16
        go_wp2_with (go_at_call 25; refine (cH _).mono ?_; rintro e w' ⟨rfl, rfl⟩)
        go_ret
        exact ⟨rfl, 0, rfl⟩
    · rw [if_neg (fun h => h1 h.1)]
      have n1 : ¬ ((1 : Int) < (arg.size : Int)) := by omega
      go_enter Try.func16, Try.ntmps16
      go_wp2_with (go_at_call 25; refine (cH _).mono ?_; rintro e w' ⟨rfl, rfl⟩)
      go_ret
      exact ⟨rfl, 0, rfl⟩
  · rw [hp] at cH
    simp only [if_true]
    go_enter Try.func16, Try.ntmps16
    go_wp2_with (go_at_call 25; refine (cH _).mono ?_; rintro e w' ⟨rfl, rfl⟩)
    go_ret
    exact ⟨rfl, 0, rfl⟩
def GrowPost (w : World) (e : Ending) (w' : World) : Prop := ∃ v, e = .returned v ∧ Kd.R Kd.string 9 w' w.heap.size (fun _ => True) v [] ∧ Below w.heap.size w w'
set_option maxHeartbeats 1000000 in
theorem grow_calls (n : Nat) (hn : n ≤ 4000000) (w : World) : Calls Try.prog 24 #[.slice none 0 0, .int .i64 n] w (GrowPost w) := by
  by_cases h0 : n = 0
  · subst h0
    go_enter Try.func24, Try.ntmps24
    go_wp2
    go_ret
    exact ⟨_, rfl, Kd.R_nil _ _ _ _ _, Below.refl _ _⟩
  · have n1 : (0 : Int) < (n : Int) := by omega
    have n2 : ¬ ((n : Int) < 0) := by omega
    have n3 : IntKind.i64.wrap (n : Int) = n := by rw [IntKind.wrap_i64]; omega
    have hz : Kd.string.M w w.heap.size (fun _ => False) (⟨#[]⟩ : ByteArray) (Value.string ⟨#[]⟩).cells.toList := rfl
    go_enter Try.func24, Try.ntmps24
    go_wp2_with (at_builtin; refine Kd.R_append_zeros Kd.string (w0 := w) w.heap.size rfl (.tmp 20) (.tmp 21) 23 3 9 (.string ⟨#[]⟩) 16 rfl Try.underlying23 Try.underlying3 info9 rfl (by decide) (by decide) (.slice none 0 0) [] ⟨#[]⟩ (n : Int) (fun _ => True) rfl rfl hz (fun _ _ => trivial) (Kd.R_nil _ _ _ _ _) (by omega) (Below.refl _ _) (Nat.le_refl _) (by simp; omega) ?_; intro v1 w1 HO1 HB1 hg1 hat1; obtain ⟨A1, c1, e1⟩ := Kd.R_slice HO1; subst e1; have T1 := Kd.R_take HO1 (m := 0) (Nat.zero_le _))
    go_ret
    exact ⟨_, rfl, T1, HB1⟩
def ConcatPost (xs : List ByteArray) (w : World) (e : Ending) (w' : World) : Prop := ∃ v, e = .returned v ∧ Kd.R Kd.string 9 w' w.heap.size (fun _ => True) v xs ∧ Below w.heap.size w w'
/-- The first k of two rows. -/
def upTo (ps qs : List ByteArray) : Nat → List ByteArray
  | 0 => []
  | 1 => ps
  | _ => ps ++ qs
set_option maxHeartbeats 2000000 in
theorem concat_calls (p : Nat) (Ap Aq : Option Addr) (cp cq : Nat) (ps qs : List ByteArray) (w : World) (k0 : w.cell? ⟨p, 0, none⟩ = some (.slice Ap ps.length cp)) (k1 : w.cell? ⟨p, 1, none⟩ = some (.slice Aq qs.length cq))
    (hp : Kd.C Kd.string w Ap ps.length ps) (hq : Kd.C Kd.string w Aq qs.length qs) (np : ps.length ≤ 1000000) (nq : qs.length ≤ 1000000) :
    Calls Try.prog 15 #[.slice (some ⟨p, 0, none⟩) 2 2] w (ConcatPost (ps ++ qs) w) := by
  have P := Aside0.mk hp
  have Q := Aside0.mk hq
  clear hp hq
  go_enter Try.func15, Try.ntmps15
  go_wp2_with (fail)
  go_loopw [3, 11] (fun v3 v11 wr => ∃ k : Nat, v11 = .int .i64 k ∧ k ≤ 2 ∧ v3 = .int .i64 ((upTo ps qs k).length : Nat) ∧ w = wr) (fun _ v11 _ => 2 - (Go.RowKit.intOf v11).toNat)
  case atStart => exact ⟨0, rfl, by omega, rfl, rfl⟩
  case round =>
    obtain ⟨k, rfl, hk, rfl, rfl⟩ := hrel
    rcases (by omega : k = 0 ∨ k = 1 ∨ k = 2) with rfl | rfl | rfl
    · have n1 : IntKind.i64.wrap (ps.length : Int) = ps.length := by rw [IntKind.wrap_i64]; omega
      have n2 : ¬ ((ps.length : Int) < 0) := by omega
      simp only [upTo, List.length_nil]
      go_wp2_with (fail)
      go_roundw
      case rel => exact ⟨1, by go_num, by omega, by simp [upTo], by first | rfl | trivial⟩
      case measure => simp [Go.RowKit.intOf]
    · have n1 : IntKind.i64.wrap ((ps.length : Int) + qs.length) = ps.length + qs.length := by rw [IntKind.wrap_i64]; omega
      have n2 : ¬ ((ps.length : Int) + qs.length < 0) := by omega
      simp only [upTo]
      go_wp2_with (fail)
      go_roundw
      case rel => exact ⟨2, by go_num, by omega, by simp [upTo], by first | rfl | trivial⟩
      case measure => simp [Go.RowKit.intOf]
    · simp only [upTo, List.length_append]
      have cG := grow_calls (ps.length + qs.length) (by omega) w
      go_wp2_with (go_at_call 24; refine cG.mono ?_; rintro e w1 ⟨v1, rfl, HR1, HB1⟩)
      have R1 := Aside0.mk HR1
      have B1 := Aside0.mk HB1
      have j0 := pw_cell_below HB1 k0
      have j1 := pw_cell_below HB1 k1
      have k0' := k0; have k1' := k1; clear HR1 HB1 cG k0 k1
      go_loopw [6, 27] (fun v6 v27 wz => ∃ k : Nat, v27 = .int .i64 k ∧ k ≤ 2 ∧ Aside0 (Kd.R Kd.string 9 wz w.heap.size (fun _ => True) v6 (upTo ps qs k)) ∧ Aside0 (Below w.heap.size w wz)) (fun _ v27 _ => 2 - (Go.RowKit.intOf v27).toNat)
      case atStart => exact ⟨0, rfl, by omega, R1, B1⟩
      case round =>
        obtain ⟨k, rfl, hk, HR, HB⟩ := hrel
        have bsz := HB.out.size
        have i0 := pw_cell_below HB.out k0'
        have i1 := pw_cell_below HB.out k1'
        rcases (by omega : k = 0 ∨ k = 1 ∨ k = 2) with rfl | rfl | rfl
        · have C0 := Kd.C_below P.out HB.out
          go_wp2_with (at_builtin; refine Kd.R_append_rows Kd.string (w0 := w) w.heap.size rfl (.tmp 31) (.tmp 32) 23 9 (.string ⟨#[]⟩) 16 rfl Try.underlying23 info9 rfl (by decide) (by decide) u6 (upTo ps qs 0) ps _ _ _ (fun _ => True) (fun _ => False) rfl rfl HR.out C0 (fun _ _ h => h) (fun _ h => h.elim) (fun _ _ => trivial) HB.out bsz (by simp [upTo]; omega) ?_; intro v1 w2 HO1 HB1 hg1 hat1)
          go_roundw
          case rel => exact ⟨1, by go_num, by omega, ⟨by simpa [upTo] using HO1⟩, ⟨HB1⟩⟩
          case measure => simp [Go.RowKit.intOf]
        · have C1 := Kd.C_below Q.out HB.out
          go_wp2_with (at_builtin; refine Kd.R_append_rows Kd.string (w0 := w) w.heap.size rfl (.tmp 31) (.tmp 32) 23 9 (.string ⟨#[]⟩) 16 rfl Try.underlying23 info9 rfl (by decide) (by decide) u6 (upTo ps qs 1) qs _ _ _ (fun _ => True) (fun _ => False) rfl rfl HR.out C1 (fun _ _ h => h) (fun _ h => h.elim) (fun _ _ => trivial) HB.out bsz (by simp [upTo]; omega) ?_; intro v1 w2 HO1 HB1 hg1 hat1)
          go_roundw
          case rel => exact ⟨2, by go_num, by omega, ⟨by simpa [upTo] using HO1⟩, ⟨HB1⟩⟩
          case measure => simp [Go.RowKit.intOf]
        · go_wp2_with (fail)
          go_ret
          exact ⟨_, rfl, HR.out, HB.out⟩
end Go.Proofs.Ytljlhknpfnphnaa.QOpts
