/- width.at, width.Of, width.Cut and the laws' awake, by hand: a range over a string, and the tables of unicode/utf8. -/
import Derived.Test.YtngcecmfgjgigaaDoorShelf
import Derived.Test.YtngcecmfgjgigaaDoorQWidthRunesx1
import Derived.Test.YtngcecmfgjgigaaDoorRows
import Derived.Lib.OthersKept
import Derived.Lib.TrimU
import Derived.Lib.LaidU8
import Derived.LoopTactic
import Derived.WalkSmall
import Derived.LaidLaws
namespace Go.Proofs.YtngcecmfgjgigaaDoor.Ext
open Go.RowKit Go.Shelf Go.Lib Go.Proofs.YtngcecmfgjgigaaDoor.QWidthRunes Go.Proofs.YtngcecmfgjgigaaDoorW.PrintWords Go.Proofs.YtngcecmfgjgigaaDoorW.PrintLast Go.Proofs.YtngcecmfgjgigaaDoorW.PrintMore
set_option linter.unusedVariables false
set_option linter.unusedSimpArgs false

/-- The two tables of unicode/utf8 stand. -/
def Env (w : World) : Prop := Lib.Utf8Tabs 0 1 w
theorem Env.below {w w' : World} (h : Env w) (hb : Below w.heap.size w w') : Env w' := Utf8Tabs_below h hb
def width_at.f (s : ByteArray) : Option (Int × Int) :=
  if (decodeGo s).1 = 65533 ∧ (decodeGo s).2 ≤ 1 then some (1, 1) else (width_Rune.f 100 ((decodeGo s).1 : Int)).bind fun t => some (t, ((decodeGo s).2 : Int))
set_option maxHeartbeats 1000000 in
theorem width_at.calls (s : ByteArray) (r0 r1 : Int) (w : World) (h : width_at.f s = some (r0, r1)) (HE : Env w) :
    Calls Tryd.prog 19 #[.string s] w fun e w' => e = .returned (.tuple #[.int .i64 r0, .int .i64 r1]) ∧ Below w.heap.size w w' := by
  have cD := Tryd.utf8_DecodeRuneInString s w HE
  unfold width_at.f at h
  generalize decodeGo s = d at h cD
  obtain ⟨r, n⟩ := d
  simp only at h cD
  by_cases g : r = 65533 ∧ n ≤ 1
  · rw [if_pos g] at h
    obtain ⟨rfl, rfl⟩ := Prod.mk.inj (Option.some.inj h)
    obtain ⟨g1, g2⟩ := g
    have b1 : (((r : Nat) : Int) == 65533) = true := by rw [g1]; rfl
    have b2 : decide (((n : Nat) : Int) ≤ 1) = true := decide_eq_true (by omega)
    have b3 : (((n : Nat) : Int) ≤ 1) := by omega
    clear h HE g2
    subst g1
    go_enter Tryd.func19, Tryd.ntmps19
    go_wp2_with (go_at_call 20; refine cD.mono ?_; rintro e w' ⟨rfl, hb⟩)
    all_goals (go_ret2; exact ⟨rfl, hb⟩)
  · rw [if_neg g] at h
    obtain ⟨t, ht, h2⟩ := Option.bind_eq_some_iff.1 h
    obtain ⟨rfl, rfl⟩ := Prod.mk.inj (Option.some.inj h2)
    have cR := fun W => width_Rune.calls 100 (r : Int) t W ht
    clear h h2 HE ht
    by_cases g1 : r = 65533
    · have b1 : (((r : Nat) : Int) == 65533) = true := by rw [g1]; rfl
      have g2 : ¬ n ≤ 1 := fun h => g ⟨g1, h⟩
      have b2 : decide (((n : Nat) : Int) ≤ 1) = false := decide_eq_false (by omega)
      have b3 : ¬ (((n : Nat) : Int) ≤ 1) := by omega
      clear g g2
      subst g1
      go_enter Tryd.func19, Tryd.ntmps19
      go_wp2_with (first | (go_at_call 20; refine cD.mono ?_; rintro e w' ⟨rfl, hb⟩) | (go_at_call 8; refine (cR _).mono ?_; rintro e w2 ⟨rfl, hb2⟩))
      all_goals (go_ret2; exact ⟨rfl, hb.trans (hb2.mono hb.size)⟩)
    · have b1 : (((r : Nat) : Int) == 65533) = false := beq_eq_false_iff_ne.2 (by omega)
      have b3 : ¬ (((r : Nat) : Int) = 65533) := by omega
      clear g
      go_enter Tryd.func19, Tryd.ntmps19
      go_wp2_with (first | (go_at_call 20; refine cD.mono ?_; rintro e w' ⟨rfl, hb⟩) | (go_at_call 8; refine (cR _).mono ?_; rintro e w2 ⟨rfl, hb2⟩))
      all_goals (go_ret2; exact ⟨rfl, hb.trans (hb2.mono hb.size)⟩)
def width_Of.l : Nat → ByteArray → Nat → Int → Option Int
  | 0, _, _, _ => none
  | k + 1, s, pos, acc => if pos < s.size then (width_at.f (s.extract pos s.size)).bind fun t => width_Of.l k s (pos + (Utf8.decode s pos).2) (wrap64 (acc + t.1)) else some acc
def width_Of.f (s : ByteArray) : Option Int := width_Of.l (s.size + 1) s 0 0
set_option maxHeartbeats 4000000 in
set_option maxRecDepth 100000 in
theorem width_Of.calls (s : ByteArray) (r : Int) (w : World) (h : width_Of.f s = some r) (HE : Env w) :
    Calls Tryd.prog 12 #[.string s] w fun e w' => e = .returned (.int .i64 r) ∧ Below w.heap.size w w' := by
  unfold width_Of.f at h
  have hk0 : (w.iter s 0).heap[w.heap.size]? = some (.stringIter s 0) := World.iter_heap w s 0
  have hb0 : Below w.heap.size w (w.iter s 0) := (Below.refl _ w).alloc (Nat.le_refl _) _
  have H0 : ∃ k, width_Of.l k s 0 0 = some r := ⟨_, h⟩
  have HEE := Aside0.mk HE
  clear h HE
  go_enter Tryd.func12, Tryd.ntmps12
  go_wp2
  go_loopw [3] (fun v wr => ∃ (k pos : Nat) (acc : Int), v = .int .i64 acc ∧ wr.heap[w.heap.size]? = some (.stringIter s pos) ∧ width_Of.l k s pos acc = some r ∧ Below w.heap.size w wr)
    (fun _ wr => s.size - wr.iterPos w.heap.size)
  case atStart => obtain ⟨k, hk⟩ := H0; exact ⟨k, 0, 0, rfl, hk0, hk, hb0⟩
  case round =>
    obtain ⟨k, pos, acc, rfl, hk, hl, hnx⟩ := hrel
    clear hk0 hb0 H0
    cases k with
    | zero => simp [width_Of.l] at hl
    | succ k =>
    rw [width_Of.l] at hl
    by_cases hp : pos < s.size
    · rw [if_pos hp] at hl
      obtain ⟨⟨t0, t1⟩, ht, hl2⟩ := Option.bind_eq_some_iff.1 hl
      have hnext : ∀ ty, (Instr.next (.pointer (some ⟨w.heap.size, 0, none⟩)) true ty).run Tryd.prog wr = _ := fun ty => Lib.run_next_any_at wr w.heap.size s pos ty hk hp
      have hwd := width_pos s pos
      have hk1 := Lib.iterAt_heap wr w.heap.size s pos (pos + (Utf8.decode s pos).2) hk
      have hnx1 : Below w.heap.size w (wr.iterAt w.heap.size s (pos + (Utf8.decode s pos).2)) := Lib.below_iterAt hnx (Nat.le_refl _) s _
      have hmu : wr.iterPos w.heap.size = pos := by simp [World.iterPos, hk]
      generalize wr.iterAt w.heap.size s (pos + (Utf8.decode s pos).2) = W1 at hnext hk1 hnx1
      have cA := width_at.calls (s.extract pos s.size) t0 t1 W1 ht (HEE.out.below hnx1)
      have hgt : w.heap.size < W1.heap.size := by
        rcases Nat.lt_or_ge w.heap.size W1.heap.size with hh | hh
        · exact hh
        · rw [Array.getElem?_eq_none hh] at hk1; cases hk1
      have p1 : (0 : Int) ≤ (pos : Int) := by omega
      have p2 : (pos : Int) ≤ (s.size : Int) := by omega
      clear hl ht
      generalize Utf8.decode s pos = dd at *
      go_wp2_with (go_at_call 19; refine cA.mono ?_; rintro e W2 ⟨rfl, hb2⟩)
      have hk2 : W2.heap[w.heap.size]? = some (.stringIter s (pos + dd.2)) := by rw [hb2.block _ hgt]; exact hk1
      go_wp2
      go_roundw
      case rel => exact ⟨k, _, _, rfl, hk2, hl2, hnx1.trans (hb2.mono hnx1.size)⟩
      case measure =>
        have hmu2 : W2.iterPos w.heap.size = pos + dd.2 := by simp [World.iterPos, hk2]
        rw [hmu, hmu2]
        omega
    · rw [if_neg hp] at hl
      obtain rfl := Option.some.inj hl
      have hnext : ∀ ty, (Instr.next (.pointer (some ⟨w.heap.size, 0, none⟩)) true ty).run Tryd.prog wr = _ := fun ty => Lib.run_next_end_at wr w.heap.size s pos ty hk hp
      go_wp2
      go_ret
      exact ⟨rfl, hnx⟩
def width_Cut.l : Nat → ByteArray → Int → Nat → Int → Option ByteArray
  | 0, _, _, _, _ => none
  | k + 1, s, most, pos, acc => if pos < s.size then (width_at.f (s.extract pos s.size)).bind fun t => (if wrap64 (acc + t.1) > most then some (s.extract 0 pos) else width_Cut.l k s most (pos + (Utf8.decode s pos).2) (wrap64 (acc + t.1))) else some s
def width_Cut.f (s : ByteArray) (most : Int) : Option ByteArray := width_Cut.l (s.size + 1) s most 0 0
set_option maxHeartbeats 4000000 in
set_option maxRecDepth 100000 in
theorem width_Cut.calls (s : ByteArray) (most : Int) (r : ByteArray) (w : World) (h : width_Cut.f s most = some r) (HE : Env w) :
    Calls Tryd.prog 13 #[.string s, .int .i64 most] w fun e w' => e = .returned (.string r) ∧ Below w.heap.size w w' := by
  unfold width_Cut.f at h
  have hk0 : (w.iter s 0).heap[w.heap.size]? = some (.stringIter s 0) := World.iter_heap w s 0
  have hb0 : Below w.heap.size w (w.iter s 0) := (Below.refl _ w).alloc (Nat.le_refl _) _
  have H0 : ∃ k, width_Cut.l k s most 0 0 = some r := ⟨_, h⟩
  have HEE := Aside0.mk HE
  clear h HE
  go_enter Tryd.func13, Tryd.ntmps13
  go_wp2
  go_loopw [5] (fun v wr => ∃ (k pos : Nat) (acc : Int), v = .int .i64 acc ∧ wr.heap[w.heap.size]? = some (.stringIter s pos) ∧ width_Cut.l k s most pos acc = some r ∧ Below w.heap.size w wr)
    (fun _ wr => s.size - wr.iterPos w.heap.size)
  case atStart => obtain ⟨k, hk⟩ := H0; exact ⟨k, 0, 0, rfl, hk0, hk, hb0⟩
  case round =>
    obtain ⟨k, pos, acc, rfl, hk, hl, hnx⟩ := hrel
    clear hk0 hb0 H0
    cases k with
    | zero => simp [width_Cut.l] at hl
    | succ k =>
    rw [width_Cut.l] at hl
    by_cases hp : pos < s.size
    · rw [if_pos hp] at hl
      obtain ⟨⟨t0, t1⟩, ht, hl2⟩ := Option.bind_eq_some_iff.1 hl
      have hnext : ∀ ty, (Instr.next (.pointer (some ⟨w.heap.size, 0, none⟩)) true ty).run Tryd.prog wr = _ := fun ty => Lib.run_next_any_at wr w.heap.size s pos ty hk hp
      have hwd := width_pos s pos
      have hk1 := Lib.iterAt_heap wr w.heap.size s pos (pos + (Utf8.decode s pos).2) hk
      have hnx1 : Below w.heap.size w (wr.iterAt w.heap.size s (pos + (Utf8.decode s pos).2)) := Lib.below_iterAt hnx (Nat.le_refl _) s _
      have hmu : wr.iterPos w.heap.size = pos := by simp [World.iterPos, hk]
      generalize wr.iterAt w.heap.size s (pos + (Utf8.decode s pos).2) = W1 at hnext hk1 hnx1
      have cA := width_at.calls (s.extract pos s.size) t0 t1 W1 ht (HEE.out.below hnx1)
      have hgt : w.heap.size < W1.heap.size := by
        rcases Nat.lt_or_ge w.heap.size W1.heap.size with hh | hh
        · exact hh
        · rw [Array.getElem?_eq_none hh] at hk1; cases hk1
      have p1 : (0 : Int) ≤ (pos : Int) := by omega
      have p2 : (pos : Int) ≤ (s.size : Int) := by omega
      clear hl ht
      generalize Utf8.decode s pos = dd at *
      simp only [] at hl2
      by_cases g : wrap64 (acc + t0) > most
      · rw [if_pos g] at hl2
        obtain rfl := Option.some.inj hl2
        have b1 : decide (most < wrap64 (acc + t0)) = true := decide_eq_true g
        go_wp2_with (go_at_call 19; refine cA.mono ?_; rintro e W2 ⟨rfl, hb2⟩)
        all_goals (go_ret; exact ⟨rfl, hnx1.trans (hb2.mono hnx1.size)⟩)
      · rw [if_neg g] at hl2
        have b1 : decide (most < wrap64 (acc + t0)) = false := decide_eq_false g
        go_wp2_with (go_at_call 19; refine cA.mono ?_; rintro e W2 ⟨rfl, hb2⟩)
        have hk2 : W2.heap[w.heap.size]? = some (.stringIter s (pos + dd.2)) := by rw [hb2.block _ hgt]; exact hk1
        go_wp2
        go_roundw
        case rel => exact ⟨k, _, _, rfl, hk2, hl2, hnx1.trans (hb2.mono hnx1.size)⟩
        case measure =>
          have hmu2 : W2.iterPos w.heap.size = pos + dd.2 := by simp [World.iterPos, hk2]
          rw [hmu, hmu2]
          omega
    · rw [if_neg hp] at hl
      obtain rfl := Option.some.inj hl
      have hnext : ∀ ty, (Instr.next (.pointer (some ⟨w.heap.size, 0, none⟩)) true ty).run Tryd.prog wr = _ := fun ty => Lib.run_next_end_at wr w.heap.size s pos ty hk hp
      go_wp2
      go_ret
      exact ⟨rfl, hnx⟩
def domesdaylaw02_awake.f : Option Bool := some true
theorem of_awake : width_Of.f ⟨#[97, 227, 129, 130]⟩ = some 3 := by kernel_rfl
theorem rune_awake : width_Rune.f 100 120 = some 1 := by kernel_rfl
theorem domesdaylaw02_awake.calls (r : Bool) (w : World) (h : domesdaylaw02_awake.f = some r) (HE : Env w) :
    Calls Tryd.prog 7 #[] w fun e w' => e = .returned (.bool r) ∧ Below w.heap.size w w' := by
  obtain rfl := Option.some.inj h
  have c1 := width_Of.calls _ _ w of_awake HE
  have c2 := fun W => width_Rune.calls 100 120 1 W rune_awake
  clear HE h
  go_enter Tryd.func7, Tryd.ntmps7
  go_wp2_with (first | (go_at_call 12; refine c1.mono ?_; rintro e w' ⟨rfl, hb⟩) | (go_at_call 8; refine (c2 _).mono ?_; rintro e w2 ⟨rfl, hb2⟩))
  all_goals (go_ret; exact ⟨rfl, hb.trans (hb2.mono hb.size)⟩)
set_option maxRecDepth 100000 in
/-- The tables, out of what a row lists. -/
theorem env_of {w : World} (hL : laidMet Tryd.prog [("unicode/utf8.acceptRanges", Rows.laid_unicode_utf8_acceptRanges), ("unicode/utf8.first", Rows.laid_unicode_utf8_first)] w) : Env w :=
  utf8Tabs_of_reads Tryd.lays260 ⟨by kernel_rfl, by kernel_rfl, by kernel_rfl, by kernel_rfl, by kernel_rfl, by kernel_rfl, by kernel_rfl⟩ (Lib.laidMet.reads hL (.tail _ (.head _))) (Lib.laidMet.reads hL (.head _))
end Go.Proofs.YtngcecmfgjgigaaDoor.Ext
