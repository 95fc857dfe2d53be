/- quote.inC: a name with C's escapes, written byte by byte into a strings.Builder. -/
import Derived.Test.YtkhbgfnbkdonlaaDoorQQuo1
import Derived.Test.YtkhbgfnbkdonlaaDoorXBld
import Derived.Lib.ConvBytes
import Derived.Laws.IdiomStrings
import Derived.LoopTactic
import Derived.WalkSmall
namespace Go.Proofs.YtkhbgfnbkdonlaaDoor.QQuo
open Go.RowKit Go.Shelf Go.Lib Go.Proofs.YtkhbgfnbkdonlaaDoor.Bld Go.Proofs.YtkhbgfnbkdonlaaDoorW.PrintWords Go.Proofs.YtkhbgfnbkdonlaaDoorW.PrintLast Go.Proofs.YtkhbgfnbkdonlaaDoorW.PrintMore
set_option linter.unusedVariables false
set_option linter.unusedSimpArgs false

/-- A byte of a text. -/
def ub (s : ByteArray) (i : Nat) : UInt8 := s.data.toList.getD i 0
def quote_inC.l : Nat → ByteArray → ByteArray → List Int → Nat → List UInt8 → Option (List UInt8)
  | 0, _, _, _, _, _ => none
  | k + 1, s, signs, l, i, acc =>
    if i < s.size then
      if i < l.length ∧ acc.length ≤ 1000000000 then
        if rd l (i : Int) = 2 then (quote_escape.f ((ub s i).toNat : Int)).bind fun e => if e.size ≤ 1000 then quote_inC.l k s signs l (i + 1) (acc ++ e.data.toList) else none
        else if 0 ≤ Lib.indexByte signs.data.toList (ub s i) then quote_inC.l k s signs l (i + 1) (acc ++ [92, ub s i])
        else quote_inC.l k s signs l (i + 1) (acc ++ [ub s i])
      else none
    else some acc
def quote_inC.f (a0 a1 : ByteArray) (l2 : List Int) : Option ByteArray := if a0.size ≤ 1000000 then (quote_inC.l (a0.size + 1) a0 a1 l2 0 []).map fun l => ⟨l.toArray⟩ else none
/-- Where the writing stands. -/
def InCRel (w0 : World) (s signs : ByteArray) (l : List Int) (R : List UInt8) (i : Nat) (wr : World) : Prop :=
  ∃ k acc, quote_inC.l k s signs l i acc = some R ∧ Blt (w0.heap.size + 2) w0.heap.size (Lib.byteCells acc) wr ∧ Below w0.heap.size w0 wr ∧ w0.heap.size + 2 ≤ wr.heap.size ∧ ∃ cs fz, wr.heap[w0.heap.size + 1]? = some (.cells cs 5 fz) ∧ ∀ j, j < s.size → cs[j]? = some (.int .u8 ((ub s j).toNat : Int))
theorem byteCells_app (a b : List UInt8) : Lib.byteCells a ++ Lib.byteCells b = Lib.byteCells (a ++ b) := by simp [Lib.byteCells]
theorem below_bytes (w : World) (e : Nat) (s : ByteArray) : Below w.heap.size w (Lib.bytesWorld w e s) :=
  ⟨rfl, rfl, rfl, by rw [Lib.bytesWorld_size]; omega, fun k hk => Lib.bytesWorld_at_old w e s k hk⟩
theorem InCRel.step {w0 wr w3 : World} {s signs : ByteArray} {l : List Int} {R acc : List UInt8} {k i : Nat} {cs : Array Value} {fz : Nat × Nat} (hl : quote_inC.l k s signs l i acc = some R) (hB : Blt (w0.heap.size + 2) w0.heap.size (Lib.byteCells acc) w3) (hb : Below w0.heap.size w0 wr) (hsz : w0.heap.size + 2 ≤ wr.heap.size) (hk : wr.heap[w0.heap.size + 1]? = some (.cells cs 5 fz) ∧ ∀ j, j < s.size → cs[j]? = some (.int .u8 ((ub s j).toNat : Int))) (hK : Kp (w0.heap.size + 2) w0.heap.size wr w3) : InCRel w0 s signs l R i w3 :=
  ⟨k, acc, hl, hB, hb.trans (hK.1 w0.heap.size (Nat.le_refl _) (by omega)), Nat.le_trans hsz hK.2.2, cs, fz, hK.2.1 _ _ (by omega) (by omega) hk.1, hk.2⟩
set_option maxHeartbeats 4000000 in
set_option maxRecDepth 100000 in
theorem quote_inC.calls (a0 a1 : ByteArray) (A2 : Option Addr) (c2 : Nat) (l2 : List Int) (r : ByteArray) (w : World) (hr2 : Kd.C (Kd.int .i64) w A2 l2.length l2) (hc2 : l2.length ≤ c2) (h : quote_inC.f a0 a1 l2 = some r) :
    Calls Tryd.prog 17 #[.string a0, .string a1, .slice A2 l2.length c2] w fun e w' => e = .returned (.string r) ∧ Below w.heap.size w w' := by
  have hbig : a0.size ≤ 1000000 := by
    unfold quote_inC.f at h
    split at h
    · assumption
    · cases h
  unfold quote_inC.f at h
  rw [if_pos hbig] at h
  obtain ⟨R, hR, rfl⟩ := Option.map_eq_some_iff.1 h
  have HR2 := Aside0.mk hr2
  have kc := fun W => Lib.run_convert_string_bytes (P := Tryd.prog) W 9 42 5 a0 Tryd.underlying9 Tryd.underlying42 Tryd.underlying5
  have hrel0 : InCRel w a0 a1 l2 R 0 (Lib.bytesWorld (w.alloc (.cells #[.pointer none, .slice none 0 0] 52)) 5 a0) := by
    have h1 := Lib.bytesWorld_at_new (w.alloc (.cells #[.pointer none, .slice none 0 0] 52)) 5 a0
    rw [World.size_alloc] at h1
    have h2 := Lib.bytesWorld_size (w.alloc (.cells #[.pointer none, .slice none 0 0] 52)) 5 a0
    rw [World.size_alloc] at h2
    have h3 : Below w.heap.size w (w.alloc (.cells #[.pointer none, .slice none 0 0] 52)) := (Below.refl _ w).alloc (Nat.le_refl _) _
    have h4 : Below (w.alloc (.cells #[.pointer none, .slice none 0 0] 52)).heap.size (w.alloc (.cells #[.pointer none, .slice none 0 0] 52)) (Lib.bytesWorld (w.alloc (.cells #[.pointer none, .slice none 0 0] 52)) 5 a0) := below_bytes _ 5 a0
    refine ⟨a0.size + 1, [], hR, (Blt.fresh (w.heap.size + 2) w).kept h4, h3.trans (h4.mono (by simp)), by omega, _, _, h1, fun j hj => ?_⟩
    have h5 := Lib.bytesWorld_cell (w.alloc (.cells #[.pointer none, .slice none 0 0] 52)) 5 a0 j hj
    rw [World.size_alloc, Lib.cell_of_heap h1] at h5
    exact h5
  have H0 := Aside0.mk hrel0
  clear h hR hr2 hrel0
  go_enter Tryd.func17, Tryd.ntmps17
  go_wp2
  go_loopw [13] (fun v13 wr => ∃ i : Nat, v13 = .int .i64 i ∧ i ≤ a0.size ∧ Aside0 (InCRel w a0 a1 l2 R i wr)) (fun v13 _ => a0.size - (RowKit.intOf v13).toNat)
  case atStart => exact ⟨0, rfl, Nat.zero_le _, H0⟩
  case round =>
    obtain ⟨i, rfl, hi, HR⟩ := hrel
    clear H0
    obtain ⟨k, acc, hl, hB, hbel, hsz, cs, fz, hk, hcs⟩ := HR.out
    clear HR
    cases k with
    | zero => simp [quote_inC.l] at hl
    | succ k =>
    rw [quote_inC.l] at hl
    by_cases hlt : i < a0.size
    · rw [if_pos hlt] at hl
      by_cases g1 : i < l2.length ∧ acc.length ≤ 1000000000
      · rw [if_pos g1] at hl
        obtain ⟨g2, g3⟩ := g1
        have hc0 : wr.cell? ⟨w.heap.size + 1, i, none⟩ = some (.int .u8 ((ub a0 i).toNat : Int)) := (by rw [Lib.cell_of_heap hk]; exact hcs i hlt)
        obtain ⟨ad, he, hca⟩ := Kd.at_int (Kd.C_below HR2.out hbel) (i : Int) (by omega) (by omega)
        rw [Int.toNat_natCast] at hca
        subst he
        have n1 : (i : Int) < (a0.size : Int) := by omega
        have n2 : (i : Int) < (l2.length : Int) := by omega
        have n3 : i < l2.length := g2
        have n4 : (i : Int) ≤ 1000000 := by omega
        have n5 : (0 : Int) ≤ (i : Int) := by omega
        have hHB := Aside0.mk hB
        have hbl := Aside0.mk hbel
        have hHK := Aside0.mk (And.intro hk hcs)
        clear hB hbel hk hcs
        by_cases g4 : rd l2 (i : Int) = 2
        · rw [if_pos g4] at hl
          obtain ⟨E, hE, hl2⟩ := Option.bind_eq_some_iff.1 hl
          clear hl
          by_cases g6 : E.size ≤ 1000
          · rw [if_pos g6] at hl2
            have HL := Aside0.mk hl2
            clear hl2
            have cE := fun W => quote_escape.calls ((ub a0 i).toNat : Int) E W hE
            have b4 : (rd l2 (i : Int) == 2) = true := beq_iff_eq.2 g4
            clear hE g4
            go_wp2_with (first | (go_at_call 33; refine (cE _).mono ?_; rintro e w2 ⟨rfl, hb2⟩) | (go_at_call 32; refine (writeString (w.heap.size + 2) w.heap.size (Lib.byteCells acc) _ _ (hHB.out.kept hb2) ?hx ?hy).mono ?_; (case hx => (rw [Lib.byteCells_length]; omega)); (case hy => exact Nat.le_trans hsz hb2.size); rintro e w3 ⟨rfl, h3, k3⟩))
            go_roundw
            case rel => exact ⟨i + 1, by go_num, by omega, ⟨InCRel.step (cs := cs) (fz := fz) HL.out (by rw [show Lib.byteCells (acc ++ E.data.toList) = Lib.byteCells acc ++ Lib.strCells E from by simp [Lib.byteCells, Lib.strCells]]; exact h3) hbl.out hsz hHK.out ((Kp.below (b := w.heap.size) hb2 hsz).trans k3)⟩⟩
            case measure => simp [RowKit.intOf]; omega
          · rw [if_neg g6] at hl2; cases hl2
        · rw [if_neg g4] at hl
          have b4 : (rd l2 (i : Int) == 2) = false := beq_eq_false_iff_ne.2 g4
          by_cases g5 : 0 ≤ Lib.indexByte a1.data.toList (ub a0 i)
          · rw [if_pos g5] at hl
            have cI := fun W => strings_IndexByte.calls a1 ((ub a0 i).toNat : Int) _ W rfl
            have hu : ((ub a0 i).toNat : Int).toNat.toUInt8 = ub a0 i := by simp
            rw [hu] at cI
            have HL := Aside0.mk hl
            clear hl
            have kb := fun (W : World) (g cap : Nat) (hc : W.cell? ⟨g, 0, none⟩ = some (.int .u8 ((ub a0 i).toNat : Int))) => run_convert_bytes_back (P := Tryd.prog) W 42 9 5 ⟨g, 0, none⟩ cap [ub a0 i] Tryd.underlying42 Tryd.underlying5 Tryd.underlying9 (fun j hj => by
              obtain rfl : j = 0 := by simpa using hj
              simpa [Addr.add] using hc)
            have kb1 : ∀ W : World, (convert 42 9 (.slice (some ⟨W.heap.size, 0, none⟩) 1 1)).run Tryd.prog (W.alloc (.cells #[.int .u8 ((ub a0 i).toNat : Int)] 5)) = .ok (.string ⟨#[ub a0 i]⟩) (W.alloc (.cells #[.int .u8 ((ub a0 i).toNat : Int)] 5)) := fun W => kb _ W.heap.size 1 (by simp)
            clear kb
            generalize Lib.indexByte a1.data.toList (ub a0 i) = q at *
            go_wp2_with (go_at_call 27; refine (cI _).mono ?_; rintro e w2 ⟨rfl, hb2⟩)
            have hs2 : ((⟨#[92]⟩ : ByteArray) ++ ⟨#[ub a0 i]⟩).size = 2 := by rw [ByteArray.size_append]; rfl
            have hB2 := (hHB.out.kept hb2).kept ((Below.refl w2.heap.size w2).alloc (Nat.le_refl _) (.cells #[.int .u8 ((ub a0 i).toNat : Int)] 5))
            have hsz2 := hb2.size
            refine (writeString (w.heap.size + 2) w.heap.size (Lib.byteCells acc) _ _ hB2 ?hx ?hy).mono ?_
            case hx => rw [Lib.byteCells_length, hs2]; omega
            case hy => rw [World.size_alloc]; omega
            rintro e w3 ⟨rfl, h3, k3⟩
            clear hs2 hB2 hsz2
            go_wp2
            go_roundw
            case rel => exact ⟨i + 1, by go_num, by omega, ⟨InCRel.step (cs := cs) (fz := fz) HL.out (by rw [show Lib.byteCells (acc ++ [92, ub a0 i]) = Lib.byteCells acc ++ Lib.strCells ((⟨#[92]⟩ : ByteArray) ++ ⟨#[ub a0 i]⟩) from by simp [Lib.byteCells, Lib.strCells, ByteArray.data_append]]; exact h3) hbl.out hsz hHK.out (((Kp.below (b := w.heap.size) hb2 hsz).trans (Kp.alloc _ _ _ _ (by have := hb2.size; omega))).trans k3)⟩⟩
            case measure => simp [RowKit.intOf]; omega
          · rw [if_neg g5] at hl
            have cI := fun W => strings_IndexByte.calls a1 ((ub a0 i).toNat : Int) _ W rfl
            have hu : ((ub a0 i).toNat : Int).toNat.toUInt8 = ub a0 i := by simp
            rw [hu] at cI
            have b5 : ¬ (0 ≤ Lib.indexByte a1.data.toList (ub a0 i)) := g5
            have HL := Aside0.mk hl
            clear hl
            generalize Lib.indexByte a1.data.toList (ub a0 i) = q at *
            go_wp2_with (first | (go_at_call 27; refine (cI _).mono ?_; rintro e w2 ⟨rfl, hb2⟩) | (go_at_call 34; refine (writeByte (w.heap.size + 2) w.heap.size (Lib.byteCells acc) _ _ (hHB.out.kept hb2) ?hx ?hy).mono ?_; (case hx => (rw [Lib.byteCells_length]; omega)); (case hy => exact Nat.le_trans hsz hb2.size); rintro e w3 ⟨rfl, h3, k3⟩))
            go_roundw
            case rel => exact ⟨i + 1, by go_num, by omega, ⟨InCRel.step (cs := cs) (fz := fz) HL.out (by rw [show Lib.byteCells (acc ++ [ub a0 i]) = Lib.byteCells acc ++ [.int .u8 ((ub a0 i).toNat : Int)] from by simp [Lib.byteCells]]; exact h3) hbl.out (Nat.le_trans hsz (Nat.le_refl _)) hHK.out ((Kp.below (b := w.heap.size) hb2 hsz).trans k3)⟩⟩
            case measure => simp [RowKit.intOf]; omega
      · rw [if_neg g1] at hl; cases hl
    · rw [if_neg hlt] at hl
      obtain rfl := Option.some.inj hl
      have n1 : ¬ ((i : Int) < (a0.size : Int)) := by omega
      have cS := Tryd.Builder_String_any_k w.heap.size w.heap.size acc wr (hB.lib (Nat.le_refl _) (by omega)) (by omega)
      have hbl := Aside0.mk hbel
      clear hB hbel hk hcs
      go_wp2_with (go_at_call 35; refine cS.mono ?_; rintro e w2 ⟨rfl, h2, hb2, _⟩)
      go_ret
      exact ⟨rfl, hbl.out.trans hb2⟩
end Go.Proofs.YtkhbgfnbkdonlaaDoor.QQuo
