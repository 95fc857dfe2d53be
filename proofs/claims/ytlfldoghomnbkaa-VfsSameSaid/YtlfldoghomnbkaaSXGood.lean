import Derived.Test.YtlfldoghomnbkaaSQVfs0
import Derived.Test.YtlfldoghomnbkaaSShelf
import Derived.Lib.OthersKept
import Derived.Lib.RuneCount
import Derived.Lib.DecodeN
import Derived.Lib.IndexAny
import Derived.Laws.Runes
import Derived.LoopTactic
import Derived.WalkMore
import Derived.ScopeJumps
import Derived.Outline
import Derived.Deep.QuietTactic
import Derived.BigQuiet
-- Texts of this seat, what the claim does not reach struck out by a program.
namespace Go.Proofs.Ytlfldoghomnbkaa.QVfs
open Go.RowKit Go.Shelf Go.Lib Go.Proofs.YtlfldoghomnbkaaW.PrintWords Go.Proofs.YtlfldoghomnbkaaW.PrintLast Go.Proofs.YtlfldoghomnbkaaW.PrintMore
set_option linter.unusedVariables false
set_option linter.unusedSimpArgs false
theorem heap_lt {w : World} {k : Nat} {o : Obj} (h : w.heap[k]? = some o) : k < w.heap.size := (Array.getElem?_eq_some_iff.1 h).1
set_option maxHeartbeats 2000000 in
set_option maxRecDepth 100000 in
theorem indexRune_bad (w : World) : Calls Try.prog 57 #[.string ⟨#[0, 47]⟩, .int .i32 65533] w fun e w' => e = .returned (.int .i64 (-1)) ∧ Below w.heap.size w w' := by
 have hk0 : (w.iter ⟨#[0, 47]⟩ 0).heap[w.heap.size]? = some (.stringIter ⟨#[0, 47]⟩ 0) := World.iter_heap w _ 0
 have hb0 : Below w.heap.size w (w.iter ⟨#[0, 47]⟩ 0) := (Below.refl _ w).alloc (Nat.le_refl _) _
 go_enter Try.func57, Try.ntmps57
 go_wp2
 go_loopw [5, 6] (fun v5 v6 wr => ∃ pos : Nat, pos ≤ 2 ∧ wr.heap[w.heap.size]? = some (.stringIter ⟨#[0, 47]⟩ pos) ∧ Below w.heap.size w wr) (fun _ _ wr => 2 - wr.iterPos w.heap.size)
 case atStart => exact ⟨0, by omega, hk0, hb0⟩
 case round =>
  obtain ⟨pos, hp, hk, hnx⟩ := hrel
  clear hk0 hb0
  by_cases h2 : pos < 2
  ·have hnext : ∀ ty, (Instr.next (.pointer (some ⟨w.heap.size, 0, none⟩)) true ty).run Try.prog wr = _ := fun ty => Lib.run_next_any_at wr w.heap.size ⟨#[0, 47]⟩ pos ty hk h2
   have hk1 := Lib.iterAt_heap wr w.heap.size ⟨#[0, 47]⟩ pos (pos + (Utf8.decode ⟨#[0, 47]⟩ pos).2) hk
   have hnx1 : Below w.heap.size w (wr.iterAt w.heap.size ⟨#[0, 47]⟩ (pos + (Utf8.decode ⟨#[0, 47]⟩ pos).2)) := Lib.below_iterAt hnx (Nat.le_refl _) _ _
   have hmu : wr.iterPos w.heap.size = pos := by simp [World.iterPos, hk]
   have hd : Utf8.decode ⟨#[0, 47]⟩ pos = (if pos = 0 then 0 else 47, 1) := by
    obtain rfl | rfl : pos = 0 ∨ pos = 1 := by omega
    ·decide +kernel
    ·decide +kernel
   rw [hd] at hnext hk1 hnx1
   generalize wr.iterAt w.heap.size ⟨#[0, 47]⟩ (pos + (if pos = 0 then 0 else 47, 1).2) = W1 at hnext hk1 hnx1
   have hv : ∃ v : Nat, v = (if pos = 0 then 0 else 47, 1).1 ∧ v < 100 := ⟨_, rfl, by split <;> decide⟩
   obtain ⟨v, hv1, hv2⟩ := hv
   rw [← hv1] at hnext
   have bv : ((v : Int) == 65533) = false := beq_eq_false_iff_ne.2 (by omega)
   have hkk : W1.heap[w.heap.size]? = some (.stringIter ⟨#[0, 47]⟩ (pos + 1)) := hk1
   have HN := Aside0.mk (And.intro hkk hnx1)
   clear hd hv1 hk1 hkk hnx1
   go_wp2
   go_roundw
   case rel => exact ⟨pos + 1, by omega, HN.out.1, HN.out.2⟩
   case measure =>
    have hmu2 : W1.iterPos w.heap.size = pos + 1 := by simp [World.iterPos, HN.out.1]
    rw [hmu, hmu2]
    omega
  ·have hnext : ∀ ty, (Instr.next (.pointer (some ⟨w.heap.size, 0, none⟩)) true ty).run Try.prog wr = _ := fun ty => Lib.run_next_end_at wr w.heap.size ⟨#[0, 47]⟩ pos ty hk (by show ¬ pos < 2; exact h2)
   go_wp2
   go_ret
   exact ⟨rfl, hnx⟩
set_option maxHeartbeats 4000000 in
set_option maxRecDepth 1000000 in
theorem indexRune_hi (r : Int) (hr : 128 ≤ r) (hr2 : r ≤ 1114111) (w : World) : Calls Try.prog 57 #[.string ⟨#[0, 47]⟩, .int .i32 r] w fun e w' => e = .returned (.int .i64 (-1)) ∧ Below w.heap.size w w' := by
 by_cases h1 : r = 65533
 ·subst h1; exact indexRune_bad w
 have b1 : (r == 65533) = false := beq_eq_false_iff_ne.2 h1
 have b2 : decide (r < 128) = false := decide_eq_false (by omega)
 have b3 : decide (0 ≤ r) = true := decide_eq_true (by omega)
 clear h1
 cases hv : Lib.validRune r with
 | false =>
  go_enter Try.func57, Try.ntmps57
  go_wp2_with (go_at_call 66; refine (Try.utf8_ValidRune r _).mono ?_; rw [hv]; rintro e w' ⟨rfl, rfl⟩)
  go_ret
  exact ⟨rfl, Below.refl _ _⟩
 | true =>
  have hval : Utf8.valid r = true := by
   unfold Lib.validRune at hv
   unfold Utf8.valid
   simp at hv ⊢
   omega
  obtain ⟨e1, e2, e3⟩ := encode_facts r hval hr
  go_enter Try.func57, Try.ntmps57
  go_wp2_with (go_at_call 66; refine (Try.utf8_ValidRune r _).mono ?_; rw [hv]; rintro e w' ⟨rfl, rfl⟩)
  go_step3
  go_wp2
  generalize Utf8.encode r = R at *
  obtain ⟨n, hn⟩ : ∃ n : Nat, R.size = n + 1 := ⟨R.size - 1, by omega⟩
  have hw : (R.size : Int) - 1 = (n : Int) := by omega
  rw [hw]
  have hl : ∀ h : n < R.size, 128 ≤ (R[n]'h).toNat := fun h => by
   have := e3 (by omega)
   simp only [show R.size - 1 = n from by omega] at this
   exact this
  clear hw e3 hv hval
  have HN := Aside0.mk hn
  go_loop [9] (fun v => v = .int .i64 (n : Int)) (fun _ => 0)
  case atStart => rfl
  case round =>
   obtain rfl := hrel
   by_cases h1 : n = 1
   ·subst h1
    have hlt' : 1 < R.size := by omega
    have hx : ((((⟨#[0, 47]⟩ : ByteArray)[1]'(by decide)).toNat : Int) != ((R[1]'hlt').toNat : Int)) = true := by
     rw [bne_iff_ne]; have := hl hlt'
     show (47 : Int) ≠ _
     omega
    have hlt : (1 : Int) < (R.size : Int) := by omega
    clear hn
    go_wp2
    go_step3
    go_wp2
    go_region
    go_wp2
    have hw2 : IntKind.i64.wrap 2 = 2 := by decide +kernel
    have cI : ∀ W, Calls Try.prog 65 #[.string ByteArray.empty, .int .u8 ((R[1]'hlt').toNat : Int)] W fun e w' => e = .returned (.int .i64 (-1)) ∧ w' = W := fun W => Try.strings_IndexByte ByteArray.empty ((R[1]'hlt').toNat : Int) W
    obtain ⟨W3, hW3⟩ : ∃ W3 : World, W3 = w'.drew := ⟨_, rfl⟩
    rw [← hW3]
    have hB : Below w'.heap.size w' W3 := by rw [hW3]; exact below_drew (Below.refl _ _)
    clear hW3
    go_quiet ((go_at_call 65; exact Calls.quiet_of_same (cI _)))
    go_wp2
    rw [Exit.noGoto_ret]
    simp (config := { zetaDelta := true }) only [go_sem, Exit.noGoto_ret]
    go_ret
    exact ⟨rfl, by repeat (first | exact hB | apply below_drew | apply pw_below_drewN)⟩
   ·have h2 : decide ((n : Int) < 2) = false := decide_eq_false (by omega)
    clear hn
    go_wp2
    go_ret
    exact ⟨rfl, Below.refl _ _⟩
theorem get_at (s : ByteArray) (i : Nat) (h : i < s.size) : s.data.toList[i]? = some (s.get! i) := by
 have h' : i < s.data.size := h
 rw [Array.getElem?_toList, Array.getElem?_eq_getElem h']
 show _ = some (s.data[i]!)
 rw [getElem!_pos s.data i h']
theorem dec_facts (s : ByteArray) (pos : Nat) (h : pos < s.size) :
  ((s.get! pos).toNat < 128 ∧ Utf8.decode s pos = ((s.get! pos).toNat, 1)) ∨
  (128 ≤ (Utf8.decode s pos).1 ∧ (Utf8.decode s pos).1 ≤ 1114111 ∧ 1 ≤ (Utf8.decode s pos).2 ∧ pos + (Utf8.decode s pos).2 ≤ s.size ∧ ∀ k, k < (Utf8.decode s pos).2 → 128 ≤ (s.get! (pos + k)).toNat) := by
 have hb0 := (s.get! pos).toNat_lt
 have hb1 := (s.get! (pos + 1)).toNat_lt
 have hb2 := (s.get! (pos + 2)).toNat_lt
 have hb3 := (s.get! (pos + 3)).toNat_lt
 have q : ∀ k, k < 4 → (s.get! (pos + k)).toNat = if k = 0 then (s.get! pos).toNat else if k = 1 then (s.get! (pos + 1)).toNat else if k = 2 then (s.get! (pos + 2)).toNat else (s.get! (pos + 3)).toNat := by
  intro k hk
  obtain rfl | rfl | rfl | rfl : k = 0 ∨ k = 1 ∨ k = 2 ∨ k = 3 := by omega
  all_goals rfl
 rw [decode_at]
 obtain ⟨n, hn⟩ : ∃ n, n = s.size - pos := ⟨_, rfl⟩
 rw [← hn]
 generalize (s.get! pos).toNat = b0 at *
 generalize (s.get! (pos + 1)).toNat = b1 at *
 generalize (s.get! (pos + 2)).toNat = b2 at *
 generalize (s.get! (pos + 3)).toNat = b3 at *
 have key : (b0 < 128 ∧ decodeN n b0 b1 b2 b3 = (b0, 1)) ∨ (128 ≤ b0 ∧ 128 ≤ (decodeN n b0 b1 b2 b3).1 ∧ (decodeN n b0 b1 b2 b3).1 ≤ 1114111 ∧ 1 ≤ (decodeN n b0 b1 b2 b3).2 ∧ (decodeN n b0 b1 b2 b3).2 ≤ 4 ∧ (2 ≤ (decodeN n b0 b1 b2 b3).2 → 128 ≤ b1 ∧ 2 ≤ n) ∧ (3 ≤ (decodeN n b0 b1 b2 b3).2 → 128 ≤ b2 ∧ 3 ≤ n) ∧ (4 ≤ (decodeN n b0 b1 b2 b3).2 → 128 ≤ b3 ∧ 4 ≤ n)) := by
  unfold decodeN
  repeat' split
  all_goals first
   | (left; exact ⟨by omega, rfl⟩)
   | (right; simp only; omega)
 rcases key with h1 | ⟨h1, h2, h3, h4, h5, h6, h7, h8⟩
 ·exact .inl h1
 ·refine .inr ⟨h2, h3, h4, ?_, fun k hk => ?_⟩
  ·omega
  ·rw [q k (by omega)]
   repeat' split
   all_goals omega
theorem not_in {x : UInt8} (h : 128 ≤ x.toNat) : ([0, 47] : List UInt8).contains x = false := by
 rw [List.contains_eq_any_beq]
 simp only [List.any_cons, List.any_nil, Bool.or_false, Bool.or_eq_false_iff]
 constructor
 ·rw [beq_eq_false_iff_ne]; rintro rfl; exact absurd h (by decide)
 ·rw [beq_eq_false_iff_ne]; rintro rfl; exact absurd h (by decide)
theorem noAny_more {s : ByteArray} {pos n : Nat} (h : NoAny s.data.toList [0, 47] pos) (hn : pos + n ≤ s.size) (hb : ∀ k, k < n → 128 ≤ (s.get! (pos + k)).toNat) : NoAny s.data.toList [0, 47] (pos + n) := by
 induction n with
 | zero => exact h
 | succ n ih =>
  exact NoAny.succ (ih (by omega) (fun k hk => hb k (by omega))) (get_at s (pos + n) (by omega)) (not_in (hb n (by omega)))
theorem low_index (b : Nat) (h : b < 128) : Lib.indexByte [0, 47] ((b : Int).toNat.toUInt8) = if b = 0 then 0 else if b = 47 then 1 else -1 := by
 have : ∀ b : Fin 128, Lib.indexByte [0, 47] (((b.val : Nat) : Int).toNat.toUInt8) = if b.val = 0 then 0 else if b.val = 47 then 1 else -1 := by decide +kernel
 exact this ⟨b, h⟩
set_option maxHeartbeats 4000000 in
set_option maxRecDepth 1000000 in
theorem indexAny_short (s : ByteArray) (w : World) (h8 : s.size ≤ 8) : Calls Try.prog 49 #[.string s, .string ⟨#[0, 47]⟩] w fun e w' => e = .returned (.int .i64 (Lib.indexAny s.data.toList [0, 47])) ∧ Below w.heap.size w w' := by
 have h8z : decide ((8 : Int) < (s.size : Int)) = false := decide_eq_false (by omega)
 have hk0 : (w.iter s 0).heap[w.heap.size]? = some (.stringIter s 0) := World.iter_heap w _ 0
 have hb0 : Below w.heap.size w (w.iter s 0) := (Below.refl _ w).alloc (Nat.le_refl _) _
 go_enter Try.func49, Try.ntmps49
 go_wp2_with (go_at_call 58; refine (Try.strings_shouldUseASCIISet _ _).mono ?_; rintro e w' ⟨rfl, hw⟩; rw [hw, h8z])
 go_loopw [9, 10] (fun v9 v10 wr => ∃ pos : Nat, pos ≤ s.size ∧ wr.heap[w.heap.size]? = some (.stringIter s pos) ∧ Below w.heap.size w wr ∧ Aside0 (NoAny s.data.toList [0, 47] pos)) (fun _ _ wr => s.size - wr.iterPos w.heap.size)
 case atStart => exact ⟨0, Nat.zero_le _, hk0, hb0, ⟨NoAny.zero _ _⟩⟩
 case round =>
  obtain ⟨pos, hp, hk, hnx, hno⟩ := hrel
  clear hk0 hb0
  by_cases h2 : pos < s.size
  ·have hnext : ∀ ty, (Instr.next (.pointer (some ⟨w.heap.size, 0, none⟩)) true ty).run Try.prog wr = _ := fun ty => Lib.run_next_any_at wr w.heap.size s pos ty hk h2
   have hk1 := Lib.iterAt_heap wr w.heap.size s pos (pos + (Utf8.decode s pos).2) hk
   have hnx1 : Below w.heap.size w (wr.iterAt w.heap.size s (pos + (Utf8.decode s pos).2)) := Lib.below_iterAt hnx (Nat.le_refl _) _ _
   have hmu : wr.iterPos w.heap.size = pos := by simp [World.iterPos, hk]
   have hg := get_at s pos h2
   rcases dec_facts s pos h2 with ⟨hlow, hd⟩ | ⟨d1, d2, d3, d4, d5⟩
   ·rw [hd] at hnext hk1 hnx1
    simp only at hnext hk1 hnx1
    generalize wr.iterAt w.heap.size s (pos + 1) = W1 at hnext hk1 hnx1
    obtain ⟨x, hx⟩ : ∃ x, x = s.get! pos := ⟨_, rfl⟩
    rw [← hx] at hnext hg hlow
    have hxi : (x.toNat : Int) < 128 := by omega
    have cR := fun W => Try.strings_IndexRune_ascii ⟨#[0, 47]⟩ (x.toNat : Int) W (by omega) hxi
    rw [show (⟨#[0, 47]⟩ : ByteArray).data.toList = [0, 47] from rfl, low_index x.toNat hlow] at cR
    have HN := Aside0.mk (And.intro hk1 hnx1)
    have HG := Aside0.mk hg
    clear hd hk1 hnx1 hx hg
    by_cases c : x.toNat = 0 ∨ x.toNat = 47
    ·have hc : ([0, 47] : List UInt8).contains x = true := by
      rcases c with c | c
      ·obtain rfl : x = 0 := UInt8.toNat_inj.1 c
       rfl
      ·obtain rfl : x = 47 := UInt8.toNat_inj.1 c
       rfl
     have hres := Lib.indexAny_hit hno.out HG.out hc
     have HR := Aside0.mk hres
     obtain ⟨i, hi0, hi⟩ : ∃ i : Int, 0 ≤ i ∧ (if x.toNat = 0 then 0 else if x.toNat = 47 then 1 else -1) = i := ⟨_, by rcases c with c | c <;> simp [c], rfl⟩
     rw [hi] at cR
     clear hi c hc hres
     go_wp2_with (go_at_call 57; refine (cR _).mono ?_; rintro e w' ⟨rfl, rfl⟩)
     go_ret
     exact ⟨by rw [HR.out]; rfl, HN.out.2⟩
    ·have hc : ([0, 47] : List UInt8).contains x = false := by
      rw [List.contains_eq_any_beq]
      simp only [List.any_cons, List.any_nil, Bool.or_false, Bool.or_eq_false_iff]
      exact ⟨beq_eq_false_iff_ne.2 (fun e => c (.inl (by rw [e]; rfl))), beq_eq_false_iff_ne.2 (fun e => c (.inr (by rw [e]; rfl)))⟩
     rw [if_neg (fun e => c (.inl e)), if_neg (fun e => c (.inr e))] at cR
     have HNO := Aside0.mk (NoAny.succ hno.out HG.out hc)
     clear c hc hno
     go_wp2_with (go_at_call 57; refine (cR _).mono ?_; rintro e w' ⟨rfl, rfl⟩)
     go_roundw
     case rel => exact ⟨pos + 1, by omega, HN.out.1, HN.out.2, HNO⟩
     case measure =>
      have hmu2 : w'.iterPos w.heap.size = pos + 1 := by simp [World.iterPos, HN.out.1]
      rw [hmu, hmu2]
      omega
   ·have HNO := Aside0.mk (noAny_more hno.out d4 d5)
    generalize wr.iterAt w.heap.size s (pos + (Utf8.decode s pos).2) = W1 at hnext hk1 hnx1
    generalize Utf8.decode s pos = dd at *
    have HN := Aside0.mk (And.intro hk1 hnx1)
    have D1 : (128 : Int) ≤ (dd.1 : Int) := by omega
    have D2 : (dd.1 : Int) ≤ 1114111 := by omega
    have cR := fun W => indexRune_hi (dd.1 : Int) D1 D2 W
    have hgt : w.heap.size < W1.heap.size := heap_lt hk1
    clear hk1 hnx1 d5 hno hg
    go_wp2_with (go_at_call 57; refine (cR _).mono ?_; rintro e W2 ⟨rfl, hb2⟩)
    have hk2 : W2.heap[w.heap.size]? = some (.stringIter s (pos + dd.2)) := by rw [hb2.block _ hgt]; exact HN.out.1
    have hnx2 : Below w.heap.size w W2 := HN.out.2.trans (hb2.mono HN.out.2.size)
    clear hb2
    go_wp2
    go_roundw
    case rel => exact ⟨pos + dd.2, d4, hk2, hnx2, HNO⟩
    case measure =>
     have hmu2 : W2.iterPos w.heap.size = pos + dd.2 := by simp [World.iterPos, hk2]
     rw [hmu, hmu2]
     omega
  ·have hnext : ∀ ty, (Instr.next (.pointer (some ⟨w.heap.size, 0, none⟩)) true ty).run Try.prog wr = _ := fun ty => Lib.run_next_end_at wr w.heap.size s pos ty hk h2
   have hres : Lib.indexAny s.data.toList [0, 47] = -1 := Lib.indexAny_none (by
    rw [show s.data.toList.length = pos from by rw [Array.length_toList]; show s.size = pos; omega]
    exact hno.out)
   have HR := Aside0.mk hres
   clear hres
   go_wp2
   go_ret
   exact ⟨by rw [HR.out]; rfl, hnx⟩
theorem set_info : (Try.prog.info? 96).map (fun i => (i.zero, i.size)) = some (some (.agg (Array.replicate 256 (.bool false))), 256) := by kernel_rfl
theorem indexAny_calls (s : ByteArray) (w : World) (hs : s.size ≤ 1000000) : Calls Try.prog 49 #[.string s, .string ⟨#[0, 47]⟩] w fun e w' => e = .returned (.int .i64 (Lib.indexAny s.data.toList [0, 47])) ∧ Below w.heap.size w w' := by
 rcases Nat.lt_or_ge 8 s.size with h | h
 ·refine (Try.strings_IndexAny_long (zero_of_info set_info).1 s ⟨#[0, 47]⟩ w (by decide) h (by omega) (by decide) (fun j b hb => ?_)).mono ?_
  ·have : j = 0 ∨ j = 1 := by
    have := (List.getElem?_eq_some_iff.1 hb).1
    simp at this; omega
   rcases this with rfl | rfl
   ·obtain rfl : (0 : UInt8) = b := by simpa using hb
    decide
   ·obtain rfl : (47 : UInt8) = b := by simpa using hb
    decide
  ·rintro e w' ⟨rfl, rfl⟩
   exact ⟨rfl, ((Below.refl _ w).alloc (Nat.le_refl _) _).alloc (by simp) _⟩
 ·exact indexAny_short s w h
def anyBad (s : ByteArray) : Bool := decide (0 ≤ Lib.indexAny s.data.toList [0, 47])
set_option maxHeartbeats 1000000 in
theorem containsAny_calls (s : ByteArray) (w : World) (hs : s.size ≤ 1000000) : Calls Try.prog 24 #[.string s, .string ⟨#[0, 47]⟩] w fun e w' => e = .returned (.bool (anyBad s)) ∧ Below w.heap.size w w' := by
 unfold anyBad
 have h := indexAny_calls s w hs
 generalize Lib.indexAny s.data.toList [0, 47] = x at *
 go_enter Try.func24, Try.ntmps24
 go_wp2_with (go_at_call 49; refine h.mono ?_; rintro e w' ⟨rfl, hb⟩)
 go_ret
 exact ⟨rfl, hb⟩
def goodB (s : ByteArray) : Bool := decide (1 ≤ s.size) && (decide (s.size ≤ 255) && (!anyBad s && (!(s.toList == [46]) && !(s.toList == [46, 46]))))
set_option maxHeartbeats 2000000 in
theorem good_calls (s : ByteArray) (w : World) (hs : s.size ≤ 1000000) : Calls Try.prog 9 #[.string s] w fun e w' => e = .returned (.bool (goodB s)) ∧ Below w.heap.size w w' := by
 unfold goodB
 by_cases g1 : 1 ≤ s.size
 ·rw [decide_eq_true g1, Bool.true_and]
  have b1 : decide ((1 : Int) ≤ (s.size : Int)) = true := decide_eq_true (by omega)
  by_cases g2 : s.size ≤ 255
  ·rw [decide_eq_true g2, Bool.true_and]
   have b2 : decide ((s.size : Int) ≤ 255) = true := decide_eq_true (by omega)
   have h := containsAny_calls s w hs
   cases g3 : anyBad s with
   | true =>
    rw [g3] at h
    clear g1 g2 g3
    go_enter Try.func9, Try.ntmps9
    go_wp2_with (go_at_call 24; refine h.mono ?_; rintro e w' ⟨rfl, hb⟩)
    go_ret
    exact ⟨rfl, hb⟩
   | false =>
    rw [g3] at h
    rw [show (!false && (!(s.toList == [46]) && !(s.toList == [46, 46]))) = (!(s.toList == [46]) && !(s.toList == [46, 46])) from rfl]
    have fin : ∀ b : Bool, (!(s.toList == [46]) && !(s.toList == [46, 46])) = b → Calls Try.prog 9 #[.string s] w fun e w' => e = .returned (.bool b) ∧ Below w.heap.size w w' := by
     intro b hb
     clear g1 g2 g3
     cases g4 : (s.toList == [46]) with
     | true =>
      rw [g4, Bool.not_true, Bool.false_and] at hb
      subst hb
      go_enter Try.func9, Try.ntmps9
      go_wp2_with (go_at_call 24; refine h.mono ?_; rintro e w' ⟨rfl, hb⟩)
      go_ret
      exact ⟨rfl, hb⟩
     | false =>
      rw [g4, Bool.not_false, Bool.true_and] at hb
      cases g5 : (s.toList == [46, 46]) with
      | true =>
       rw [g5] at hb
       subst hb
       go_enter Try.func9, Try.ntmps9
       go_wp2_with (go_at_call 24; refine h.mono ?_; rintro e w' ⟨rfl, hb⟩)
       go_ret
       exact ⟨rfl, hb⟩
      | false =>
       rw [g5] at hb
       subst hb
       go_enter Try.func9, Try.ntmps9
       go_wp2_with (go_at_call 24; refine h.mono ?_; rintro e w' ⟨rfl, hb⟩)
       go_ret
       exact ⟨rfl, hb⟩
    exact fin _ rfl
  ·rw [decide_eq_false g2, Bool.false_and]
   have b2 : decide ((s.size : Int) ≤ 255) = false := decide_eq_false (by omega)
   clear g1 g2
   go_enter Try.func9, Try.ntmps9
   go_wp2
   go_ret
   exact ⟨rfl, Below.refl _ _⟩
 ·rw [decide_eq_false g1, Bool.false_and]
  have b1 : decide ((1 : Int) ≤ (s.size : Int)) = false := decide_eq_false (by omega)
  clear g1
  go_enter Try.func9, Try.ntmps9
  go_wp2
  go_ret
  exact ⟨rfl, Below.refl _ _⟩
end Go.Proofs.Ytlfldoghomnbkaa.QVfs
