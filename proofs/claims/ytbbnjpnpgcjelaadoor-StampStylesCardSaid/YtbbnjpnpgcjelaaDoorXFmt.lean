/- stamp.Format over whatever its directives write: a loop that writes into a strings.Builder. -/
import Derived.Test.YtbbnjpnpgcjelaaDoorXStmA
import Derived.Test.YtbbnjpnpgcjelaaDoorXBld
import Derived.Lib.ConvBytes
import Derived.Laws.IdiomStrings
import Derived.LoopTactic
import Derived.WalkSmall
import Derived.WalkKit
namespace Go.Proofs.YtbbnjpnpgcjelaaDoor.QStm
open Go.RowKit Go.Shelf Go.Lib Go.Proofs.YtbbnjpnpgcjelaaDoor.Bld Go.Proofs.YtbbnjpnpgcjelaaDoorW.PrintWords Go.Proofs.YtbbnjpnpgcjelaaDoorW.PrintLast Go.Proofs.YtbbnjpnpgcjelaaDoorW.PrintMore
set_option linter.unusedVariables false
set_option linter.unusedSimpArgs false

/-- A byte of a text. -/
def ub (s : ByteArray) (i : Nat) : UInt8 := s.data.toList.getD i 0
theorem bt_ub (s : ByteArray) (p : Nat) (h : p < s.size) : ((ub s p).toNat : Int) = bt s (p : Int) := by
  have e := bt_at s (p : Int) (by rw [Int.toNat_natCast]; exact h)
  rw [← e]
  congr 2
  unfold ub
  rw [List.getD_eq_getElem?_getD, List.getElem?_eq_getElem (by simpa using h)]
  simp [ByteArray.getElem_eq_getElem_data]
def fmtL (dir : Int → Option (ByteArray × Bool)) : Nat → ByteArray → Nat → List UInt8 → Option (List UInt8)
  | 0, _, _, _ => none
  | k + 1, s, i, acc =>
    if i < s.size then
      if acc.length ≤ 1000000000 then
        if bt s (i : Int) = 37 then
          if i + 1 < s.size then
            (dir (bt s ((i : Int) + 1))).bind fun x => if x.2 = true then (if x.1.size ≤ 1000000 then fmtL dir k s (i + 2) (acc ++ x.1.data.toList) else none) else fmtL dir k s (i + 1) (acc ++ [ub s i])
          else fmtL dir k s (i + 1) (acc ++ [ub s i])
        else fmtL dir k s (i + 1) (acc ++ [ub s i])
      else none
    else some acc
def fmtF (dir : Int → Option (ByteArray × Bool)) (s : ByteArray) : Option ByteArray := if s.size ≤ 1000000 then (fmtL dir (s.size + 1) s 0 []).map fun l => ⟨l.toArray⟩ else none
/-- Where the writing stands. -/
def FmtRel (dir : Int → Option (ByteArray × Bool)) (w0 : World) (s : ByteArray) (R : List UInt8) (i : Nat) (wr : World) : Prop :=
  ∃ k acc, fmtL dir k s i acc = some R ∧ Blt (w0.heap.size + 1) w0.heap.size (Lib.byteCells acc) wr ∧ Below w0.heap.size w0 wr ∧ w0.heap.size + 1 ≤ wr.heap.size
theorem byteCells_app (a b : List UInt8) : Lib.byteCells a ++ Lib.byteCells b = Lib.byteCells (a ++ b) := by simp [Lib.byteCells]
theorem FmtRel.step {dir : Int → Option (ByteArray × Bool)} {w0 wr w3 : World} {s : ByteArray} {R acc : List UInt8} {k i : Nat} (hl : fmtL dir k s i acc = some R) (hB : Blt (w0.heap.size + 1) w0.heap.size (Lib.byteCells acc) w3) (hb : Below w0.heap.size w0 wr) (hsz : w0.heap.size + 1 ≤ wr.heap.size) (hK : Kp (w0.heap.size + 1) w0.heap.size wr w3) : FmtRel dir w0 s R i w3 :=
  ⟨k, acc, hl, hB, hb.trans (hK.1 w0.heap.size (Nat.le_refl _) (by omega)), Nat.le_trans hsz hK.2.2⟩
set_option maxHeartbeats 4000000 in
set_option maxRecDepth 100000 in
theorem format_of (dir : Int → Option (ByteArray × Bool)) (t o : Int)
    (hd : ∀ (c : Int) (e : ByteArray) (b : Bool) (W : World), dir c = some (e, b) → Env W → Calls Tryd.prog 21 #[.int .u8 c, .int .i64 t, .int .i64 o] W fun en W' => en = .returned (.tuple #[.string e, .bool b]) ∧ Below W.heap.size W W')
    (s r : ByteArray) (w : World) (h : fmtF dir s = some r) (HE : Env w) :
    Calls Tryd.prog 10 #[.string s, .int .i64 t, .int .i64 o] w fun e w' => e = .returned (.string r) ∧ Below w.heap.size w w' := by
  have hbig : s.size ≤ 1000000 := by
    unfold fmtF at h
    split at h
    · assumption
    · cases h
  unfold fmtF at h
  rw [if_pos hbig] at h
  obtain ⟨R, hR, rfl⟩ := Option.map_eq_some_iff.1 h
  have hrel0 : FmtRel dir w s R 0 (w.alloc (.cells #[.pointer none, .slice none 0 0] 45)) :=
    ⟨s.size + 1, [], hR, Blt.fresh (w.heap.size + 1) w, (Below.refl _ w).alloc (Nat.le_refl _) _, by simp⟩
  have H0 := Aside0.mk hrel0
  have HEE := Aside0.mk HE
  have HD := Aside0.mk hd
  clear h hR hrel0 HE hd
  go_enter Tryd.func10, Tryd.ntmps10
  go_wp2
  go_loopw [8] (fun v8 wr => ∃ i : Nat, v8 = .int .i64 i ∧ i ≤ s.size ∧ Aside0 (FmtRel dir w s R i wr)) (fun v8 _ => s.size - (RowKit.intOf v8).toNat)
  case atStart => exact ⟨0, rfl, Nat.zero_le _, H0⟩
  case round =>
    obtain ⟨i, rfl, hi, HR⟩ := hrel
    clear H0
    obtain ⟨k, acc, hl, hB, hbel, hsz⟩ := HR.out
    clear HR
    cases k with
    | zero => simp [fmtL] at hl
    | succ k =>
    rw [fmtL] at hl
    by_cases hlt : i < s.size
    · rw [if_pos hlt] at hl
      by_cases g3 : acc.length ≤ 1000000000
      · rw [if_pos g3] at hl
        have n1 : (i : Int) < (s.size : Int) := by omega
        have n4 : (i : Int) ≤ 1000000 := by omega
        have n5 : (0 : Int) ≤ (i : Int) := by omega
        have hx : ∀ h : i < s.size, ((s[i]'h).toNat : Int) = bt s (i : Int) := bt_at s (i : Int)
        have hub := bt_ub s i hlt
        have HU := Aside0.mk hub
        have hHB := Aside0.mk hB
        have hbl := Aside0.mk hbel
        clear hB hbel hub
        by_cases g4 : bt s (i : Int) = 37
        · rw [if_pos g4] at hl
          have b4 : (bt s (i : Int) == 37) = true := beq_iff_eq.2 g4
          by_cases g5 : i + 1 < s.size
          · rw [if_pos g5] at hl
            have n6 : (i : Int) + 1 < (s.size : Int) := by omega
            have hy : ∀ h : i + 1 < s.size, ((s[i + 1]'h).toNat : Int) = bt s ((i : Int) + 1) := bt_at s ((i + 1 : Nat) : Int)
            obtain ⟨⟨E, B⟩, hE, hl2⟩ := Option.bind_eq_some_iff.1 hl
            cases B with
            | true =>
              rw [if_pos rfl] at hl2
              by_cases g6 : E.size ≤ 1000000
              · rw [if_pos g6] at hl2
                have HL := Aside0.mk hl2
                have hE2 := fun W => HD.out _ _ _ W hE
                clear hl hl2 g4 hE
                go_wp2_with (first | (go_at_call 21; refine (hE2 _ (Env.below HEE.out hbl.out)).mono ?_; rintro e w2 ⟨rfl, hb2⟩) | (go_at_call 22; refine (writeString (w.heap.size + 1) w.heap.size (Lib.byteCells acc) _ _ (hHB.out.kept hb2) ?hx ?hy).mono ?_; (case hx => (rw [Lib.byteCells_length]; omega)); (case hy => exact Nat.le_trans hsz hb2.size); rintro e w3 ⟨rfl, h3, k3⟩))
                go_roundw
                case rel => exact ⟨i + 2, by go_num, by omega, ⟨FmtRel.step HL.out (by rw [show Lib.byteCells (acc ++ E.data.toList) = Lib.byteCells acc ++ Lib.strCells E from by simp [Lib.byteCells, Lib.strCells]]; exact h3) hbl.out hsz ((Kp.below (b := w.heap.size) hb2 hsz).trans k3)⟩⟩
                case measure => simp [RowKit.intOf]; omega
              · rw [if_neg g6] at hl2; cases hl2
            | false =>
              rw [if_neg (by simp)] at hl2
              have HL := Aside0.mk hl2
              have hE2 := fun W => HD.out _ _ _ W hE
              clear hl hl2 g4 hE
              go_wp2_with (first | (go_at_call 21; refine (hE2 _ (Env.below HEE.out hbl.out)).mono ?_; rintro e w2 ⟨rfl, hb2⟩) | (go_at_call 23; refine (writeByte (w.heap.size + 1) w.heap.size (Lib.byteCells acc) _ _ (hHB.out.kept hb2) ?hx ?hy).mono ?_; (case hx => (rw [Lib.byteCells_length]; omega)); (case hy => exact Nat.le_trans hsz hb2.size); rintro e w3 ⟨rfl, h3, k3⟩))
              go_roundw
              case rel => exact ⟨i + 1, by go_num, by omega, ⟨FmtRel.step HL.out (by rw [show Lib.byteCells (acc ++ [ub s i]) = Lib.byteCells acc ++ [.int .u8 (bt s (i : Int))] from by simp [Lib.byteCells, HU.out]]; exact h3) hbl.out hsz ((Kp.below (b := w.heap.size) hb2 hsz).trans k3)⟩⟩
              case measure => simp [RowKit.intOf]; omega
          · rw [if_neg g5] at hl
            have n6 : ¬ ((i : Int) + 1 < (s.size : Int)) := by omega
            have HL := Aside0.mk hl
            clear hl g4
            go_wp2_with (go_at_call 23; refine (writeByte (w.heap.size + 1) w.heap.size (Lib.byteCells acc) _ _ hHB.out ?hx ?hy).mono ?_; (case hx => (rw [Lib.byteCells_length]; omega)); (case hy => exact hsz); rintro e w3 ⟨rfl, h3, k3⟩)
            go_roundw
            case rel => exact ⟨i + 1, by go_num, by omega, ⟨FmtRel.step HL.out (by rw [show Lib.byteCells (acc ++ [ub s i]) = Lib.byteCells acc ++ [.int .u8 (bt s (i : Int))] from by simp [Lib.byteCells, HU.out]]; exact h3) hbl.out hsz k3⟩⟩
            case measure => simp [RowKit.intOf]; omega
        · rw [if_neg g4] at hl
          have b4 : (bt s (i : Int) == 37) = false := beq_eq_false_iff_ne.2 g4
          have HL := Aside0.mk hl
          clear hl g4
          go_wp2_with (go_at_call 23; refine (writeByte (w.heap.size + 1) w.heap.size (Lib.byteCells acc) _ _ hHB.out ?hx ?hy).mono ?_; (case hx => (rw [Lib.byteCells_length]; omega)); (case hy => exact hsz); rintro e w3 ⟨rfl, h3, k3⟩)
          go_roundw
          case rel => exact ⟨i + 1, by go_num, by omega, ⟨FmtRel.step HL.out (by rw [show Lib.byteCells (acc ++ [ub s i]) = Lib.byteCells acc ++ [.int .u8 (bt s (i : Int))] from by simp [Lib.byteCells, HU.out]]; exact h3) hbl.out hsz k3⟩⟩
          case measure => simp [RowKit.intOf]; omega
      · rw [if_neg g3] at hl; cases hl
    · rw [if_neg hlt] at hl
      obtain rfl := Option.some.inj hl
      have n1 : ¬ ((i : Int) < (s.size : Int)) := by omega
      have cS := Tryd.Builder_String_any_k w.heap.size w.heap.size acc wr (hB.lib (Nat.le_refl _) (by omega)) (by omega)
      have hbl := Aside0.mk hbel
      clear hB hbel
      go_wp2_with (go_at_call 24; refine cS.mono ?_; rintro e w2 ⟨rfl, h2, hb2, _⟩)
      go_ret
      exact ⟨rfl, hbl.out.trans hb2⟩
theorem fmtL_mono {d e : Int → Option (ByteArray × Bool)} (h : ∀ c, LeO (d c) (e c)) : ∀ (k : Nat) (s : ByteArray) (i : Nat) (acc : List UInt8), LeO (fmtL d k s i acc) (fmtL e k s i acc)
  | 0, _, _, _ => LeO.refl _
  | k + 1, s, i, acc => by
    rw [fmtL, fmtL]
    have ih := fmtL_mono h k
    refine LeO.ite (LeO.ite (LeO.ite (LeO.ite (LeO.bind (h _) fun _ => LeO.ite (LeO.ite (ih _ _ _) (LeO.refl _)) (ih _ _ _)) (ih _ _ _)) (ih _ _ _)) (LeO.refl _)) (LeO.refl _)
theorem fmtF_mono {d e : Int → Option (ByteArray × Bool)} (h : ∀ c, LeO (d c) (e c)) (s : ByteArray) : LeO (fmtF d s) (fmtF e s) := by
  unfold fmtF
  refine LeO.ite ?_ (LeO.refl _)
  intro r hr
  obtain ⟨l, hl, rfl⟩ := Option.map_eq_some_iff.1 hr
  rw [fmtL_mono h _ _ _ _ l hl]
  rfl
end Go.Proofs.YtbbnjpnpgcjelaaDoor.QStm
