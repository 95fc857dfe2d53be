/- Package perm's three letters of a mode, by hand: the row of bytes that a constant string becomes bears a mark, which the printed words don't know. -/
import Derived.Test.YtngcecmfgjgigaaProg
import Derived.WalkKit
import Derived.Outline
import Derived.LoopN
import Derived.Lib.SlBytesConst
import Derived.Lib.ConvBytes
import Derived.Laws.BitsLemmas
import Derived.Test.YtngcecmfgjgigaaWMore
import Derived.Lib.Hide
namespace Go.Proofs.Ytngcecmfgjgigaa.Ext
open Go.RowKit Go.Proofs.YtngcecmfgjgigaaW.PrintWords Go.Proofs.YtngcecmfgjgigaaW.PrintLast Go.Proofs.YtngcecmfgjgigaaW.PrintMore
set_option linter.unusedVariables false
set_option linter.unusedSimpArgs false

/-- A block with its mark. -/
def Mk (w : World) (g : Nat) (cs : Array Value) (t : TypeId) (lo hi : Nat) : Prop := w.heap[g]? = some (.cells cs t (lo, hi))
section
variable {w w' : World} {g : Nat} {t : TypeId} {cs : Array Value} {lo hi : Nat}
theorem Mk.lt (h : Mk w g cs t lo hi) : g < w.heap.size := by
  rcases Nat.lt_or_ge g w.heap.size with hlt | hge
  · exact hlt
  · unfold Mk at h; rw [Array.getElem?_eq_none hge] at h; cases h
theorem Mk.cell (h : Mk w g cs t lo hi) (i : Nat) : w.cell? ⟨g, i, none⟩ = cs[i]? := by unfold Mk at h; simp [World.cell?, h]
theorem Mk.free (h : Mk w g cs t lo hi) (i : Nat) (hi' : i < lo) : w.frozen? ⟨g, i, none⟩ = false := by unfold Mk at h; simp [World.frozen?, h]; omega
theorem Mk.set_ (h : Mk w g cs t lo hi) (i : Nat) (v : Value) : Mk (w.setCell ⟨g, i, none⟩ v) g (cs.setIfInBounds i v) t lo hi := by
  unfold Mk at h ⊢
  simp [World.setCell, Array.getElem?_modify, h]
theorem Mk.far (h : Mk w g cs t lo hi) {p : Addr} (hp : g ≠ p.block) (v : Value) : Mk (w.setCell p v) g cs t lo hi := (Below.heap_setCell w p v g hp).trans h
theorem Mk.alloc (h : Mk w g cs t lo hi) (o : Obj) : Mk (w.alloc o) g cs t lo hi := (Below.heap_alloc w o g h.lt).trans h
theorem Mk.new (w : World) (cs : Array Value) (t : TypeId) (lo hi : Nat) : Mk (w.alloc (.cells cs t (lo, hi))) w.heap.size cs t lo hi := heap_alloc_new w _
end
/-- Bit i of a mode, from the left of three. -/
def bit (a0 : Int) (i : Nat) : Bool := Go.bits .and .i64 (a0 / 2 ^ (2 - i)) 1 == 1
def rwx (i : Nat) : Int := [114, 119, 120].getD i 0
/-- The bytes behind k rounds. -/
def thr (a0 : Int) (k j : Nat) : Int := if j < k ∧ bit a0 j = true then rwx j else 45
def spec (a0 a2 : Int) : Int := (a2 - wrap64 (1 - Go.bits .and .i64 a0 1) % 256 * 32) % 256
def perm_three.f (a0 : Int) (a1 : Bool) (a2 : Int) : Option ByteArray :=
  some (strOfNums [thr a0 3 0, thr a0 3 1, if a1 = true then spec a0 a2 else thr a0 3 2])
theorem reads3 {w : World} {g : Nat} {t : TypeId} {lo hi : Nat} {x y z : Int} (h : Mk w g #[.int .u8 x, .int .u8 y, .int .u8 z] t lo hi) : ReadsInt w .u8 (some ⟨g, 0, none⟩) 3 [x, y, z] := by
  refine ⟨rfl, by omega, fun _ => ⟨_, rfl, fun j hj => ?_⟩⟩
  rw [add_plain, h.cell j]
  obtain rfl | rfl | rfl : j = 0 ∨ j = 1 ∨ j = 2 := by omega
  all_goals rfl
set_option maxHeartbeats 4000000 in
set_option maxRecDepth 100000 in
theorem perm_three.calls (a0 : Int) (a1 : Bool) (a2 : Int) (r : ByteArray) (w : World) (h : perm_three.f a0 a1 a2 = some r) :
    Calls Try.prog 30 #[.int .i64 a0, .bool a1, .int .u8 a2] w fun e w' => e = .returned (.string r) ∧ Below w.heap.size w w' := by
  have kc := fun (w : World) (C : Array Value) (n c : Nat) => Lib.run_convert_bytes_const (P := Try.prog) w 61 5 C n c Try.underlying61 Try.underlying5
  have kc2 : ∀ (w : World) (X : Obj) (C : Array Value) (n c : Nat), (convert 61 61 (.slice (some ⟨w.heap.size + 1, 0, none⟩) n c)).run Try.prog ((w.alloc X).alloc (.cells C 5)) = .ok (.slice (some ⟨w.heap.size + 1, 0, none⟩) n c) ((w.alloc X).alloc (.cells C 5 (C.size, C.size + 1))) := by
    intro w X C n c
    have h := kc (w.alloc X) C n c
    rw [World.size_alloc] at h
    exact h
  unfold perm_three.f at h
  obtain rfl := Option.some.inj h
  clear h
  go_enter Try.func30, Try.ntmps30
  go_wp2
  go_loopw [15] (fun i wr => ∃ k : Nat, k ≤ 3 ∧ i = .int .i64 k ∧ Mk wr w.heap.size #[.int .u8 (thr a0 k 0), .int .u8 (thr a0 k 1), .int .u8 (thr a0 k 2)] 5 3 4 ∧ Mk wr (w.heap.size + 1) #[.int .u8 114, .int .u8 119, .int .u8 120] 5 3 4 ∧ Below w.heap.size w wr) (fun i _ => 3 - (intOf i).toNat)
  case atStart =>
    refine ⟨0, by omega, rfl, ?_, ?_, ?_⟩
    · simp only [thr, Nat.not_lt_zero, false_and, if_false]
      exact (Mk.new w _ 5 3 4).alloc _
    · have h := Mk.new (w.alloc (.cells #[.int .u8 45, .int .u8 45, .int .u8 45] 5 (3, 4))) #[.int .u8 114, .int .u8 119, .int .u8 120] 5 3 4
      rw [World.size_alloc] at h
      exact h
    · exact ((Below.refl _ _).alloc (Nat.le_refl _) _).alloc (by simp) _
  case round =>
    obtain ⟨k, hk, rfl, hA, hB, hb⟩ := hrel
    have hcA := fun i => hA.cell i
    have hfA0 := hA.free 0 (by omega)
    have hfA1 := hA.free 1 (by omega)
    have hfA2 := hA.free 2 (by omega)
    have hcB := fun i => hB.cell i
    obtain rfl | rfl | rfl | rfl : k = 0 ∨ k = 1 ∨ k = 2 ∨ k = 3 := by omega
    · by_cases hbit : bit a0 0 = true
      · have HB := Lib.hid hbit
        simp [bit] at hbit
        go_wp2
        go_roundw
        case rel =>
          refine ⟨1, by omega, by go_num, ?_, hB.far (by simp) _, hb.setCell (by simp) _⟩
          have h := hA.set_ 0 (.int .u8 114)
          simpa [thr, HB.out, rwx] using h
        case measure => simp [intOf]
      · have HB := Lib.hid hbit
        simp [bit] at hbit
        go_wp2
        go_roundw
        case rel =>
          refine ⟨1, by omega, by go_num, ?_, hB, hb⟩
          simpa [thr, HB.out, rwx] using hA
        case measure => simp [intOf]
    · by_cases hbit : bit a0 1 = true
      · have HB := Lib.hid hbit
        simp [bit] at hbit
        go_wp2
        go_roundw
        case rel =>
          refine ⟨2, by omega, by go_num, ?_, hB.far (by simp) _, hb.setCell (by simp) _⟩
          have h := hA.set_ 1 (.int .u8 119)
          simpa [thr, HB.out, rwx] using h
        case measure => simp [intOf]
      · have HB := Lib.hid hbit
        simp [bit] at hbit
        go_wp2
        go_roundw
        case rel =>
          refine ⟨2, by omega, by go_num, ?_, hB, hb⟩
          simpa [thr, HB.out, rwx] using hA
        case measure => simp [intOf]
    · by_cases hbit : bit a0 2 = true
      · have HB := Lib.hid hbit
        simp [bit] at hbit
        go_wp2
        go_roundw
        case rel =>
          refine ⟨3, by omega, by go_num, ?_, hB.far (by simp) _, hb.setCell (by simp) _⟩
          have h := hA.set_ 2 (.int .u8 120)
          simpa [thr, HB.out, rwx] using h
        case measure => simp [intOf]
      · have HB := Lib.hid hbit
        simp [bit] at hbit
        go_wp2
        go_roundw
        case rel =>
          refine ⟨3, by omega, by go_num, ?_, hB, hb⟩
          simpa [thr, HB.out, rwx] using hA
        case measure => simp [intOf]
    · cases a1 with
      | true =>
        have hend := hA.set_ 2 (.int .u8 (spec a0 a2))
        have hs := string_of_reads (P := Try.prog) (src := 61) (dst := 9) (c := 3) Try.underlying61 Try.underlying5 Try.underlying9 (reads3 hend)
        unfold spec at hs
        go_wp2

        go_ret
        exact ⟨by simp [spec], hb.setCell (by simp) _⟩
      | false =>
        have hs := string_of_reads (P := Try.prog) (src := 61) (dst := 9) (c := 3) Try.underlying61 Try.underlying5 Try.underlying9 (reads3 hA)
        go_wp2
        go_ret
        exact ⟨by simp, hb⟩
end Go.Proofs.Ytngcecmfgjgigaa.Ext
