/- vfs.entry: a change that makes an entry. -/
import Derived.Test.YtcbjkfhflmlniaaDoorXVf7
import Derived.Test.YtcbjkfhflmlniaaDoorXVf5
import Derived.Test.YtcbjkfhflmlniaaDoorXVf4
namespace Go.Proofs.YtcbjkfhflmlniaaDoor.QVfs
open Go.RowKit Go.Proofs.YtcbjkfhflmlniaaDoorW.PrintWords Go.Proofs.YtcbjkfhflmlniaaDoorW.PrintLast Go.Proofs.YtcbjkfhflmlniaaDoorW.PrintMore
set_option linter.unusedVariables false
set_option linter.unusedSimpArgs false

theorem FsAt.read {base g : Nat} {ok : Nat → Prop} {F : Fs} {w : World} (h : FsAt base g ok F w) : FsR g F w := by
  obtain ⟨v1, v2, v3, es, hF, _⟩ := h
  exact hF.read
theorem FsAt.tight {base g : Nat} {ok : Nat → Prop} {F : Fs} {w : World} (h : FsAt base g ok F w) : FsAt base g (fun k => ok k ∧ k < w.heap.size) F w := by
  obtain ⟨v1, v2, v3, es, hF, hok⟩ := h
  exact ⟨v1, v2, v3, es, hF, fun k hk => ⟨hok k hk, hF.lt k hk⟩⟩
theorem box_cells {W : World} {b : Nat} {x0 x1 x2 x5 x6 x7 : Int} {x3 x4 : ByteArray} (h : W.heap[b]? = some (.cells #[.int .i64 x0, .int .i64 x1, .int .i64 x2, .string x3, .string x4, .int .i64 x5, .int .i64 x6, .int .i64 x7] TC (0, 0))) :
    W.cell? ⟨b, 0, none⟩ = some (.int .i64 x0) ∧ W.cell? ⟨b, 1, none⟩ = some (.int .i64 x1) ∧ W.cell? ⟨b, 2, none⟩ = some (.int .i64 x2) ∧ W.cell? ⟨b, 3, none⟩ = some (.string x3) ∧ W.cell? ⟨b, 4, none⟩ = some (.string x4) ∧ W.cell? ⟨b, 5, none⟩ = some (.int .i64 x5) ∧ W.cell? ⟨b, 6, none⟩ = some (.int .i64 x6) ∧ W.cell? ⟨b, 7, none⟩ = some (.int .i64 x7) :=
  ⟨(blk_cell h 0).trans rfl, (blk_cell h 1).trans rfl, (blk_cell h 2).trans rfl, (blk_cell h 3).trans rfl, (blk_cell h 4).trans rfl, (blk_cell h 5).trans rfl, (blk_cell h 6).trans rfl, (blk_cell h 7).trans rfl⟩
/-- What is wrong with a change that makes an entry, but for the number of nodes. -/
def Fs.wrongE (F : Fs) (c : Chg) : Int := if F.placeE c = 0 then F.fitsE c else F.placeE c
def fileN (dev mode n : Int) : Node := ⟨dev, 0, 1, Go.bits .and .i64 mode 4095, 0, 0, n, 8 * (n / 4096 + min (n % 4096) 1), 0, ⟨0, 0, 0⟩, ⟨#[]⟩⟩
def linkN (dev : Int) (t : ByteArray) : Node := ⟨dev, 0, 3, 511, 0, 0, (t.size : Int), 0, 0, ⟨0, 0, 0⟩, t⟩
/-- The node that a change makes, and its upper directory. -/
def newN (dev : Int) (c : Chg) : Node := if c.f0 = 1 then fileN dev c.f5 c.f7 else if c.f0 = 3 then linkN dev c.f4 else dirN dev c.f5
def newUp (c : Chg) : Int := if c.f0 = 0 then c.f1 else -1
theorem Fs.placeE_zero {F : Fs} {c : Chg} (h : F.placeE c = 0) : F.dirE c.f1 = 0 := by
  unfold Fs.placeE at h
  split at h
  · assumption
  · exact h
theorem Fs.fitsE_two {F : Fs} {c : Chg} (h : F.fitsE c = 0) (h2 : c.f0 = 2) : 0 ≤ c.f2 ∧ c.f2 < F.I.length := by
  unfold Fs.fitsE at h
  rw [if_neg (by omega), if_pos h2] at h
  split at h
  · rename_i hh; exact of_decide_eq_true hh
  · cases h
theorem Fs.fitsE_one {F : Fs} {c : Chg} (h : F.fitsE c = 0) (h2 : c.f0 = 1) : 0 ≤ c.f7 := by
  unfold Fs.fitsE at h
  rw [if_pos h2] at h
  split at h
  · cases h
  · omega
set_option maxHeartbeats 4000000 in
set_option maxRecDepth 100000 in
/-- .. where something is wrong. -/
theorem entry_wrong (base g : Nat) (ok : Nat → Prop) (F : Fs) (c : Chg) (w : World) (h : FsAt base g ok F w) (hs : c.f3.size ≤ 1000000) (hw : F.wrongE c ≠ 0) :
    Calls Tryd.prog 32 #[.pointer (some ⟨g, 0, none⟩), .agg (encC c).toArray] w fun e w' => e = .returned (.tuple #[.int .i64 0, .int .i64 (F.wrongE c)]) ∧ Below w.heap.size w w' := by
  have cP := fun W' hh => place_calls g F c W' hh hs
  have cT := fun W' hh ha => fits_calls g F c W' hh ha
  unfold Fs.wrongE at hw ⊢
  by_cases g0 : F.placeE c = 0
  · have hd := Fs.placeE_zero g0
    rw [if_pos g0] at hw ⊢
    rw [g0] at cP
    have ha := (Fs.dirE_zero hd).1
    clear g0 hd
    have b1 : (F.fitsE c == 0) = false := beq_eq_false_iff_ne.2 hw
    have b2 : (F.fitsE c != 0) = true := by rw [bne_iff_ne]; exact hw
    clear hw
    generalize F.fitsE c = y at *
    obtain ⟨x0, x1, x2, x3, x4, x5, x6, x7⟩ := c
    obtain ⟨W, hW⟩ : ∃ W : World, W = w.alloc (.cells #[.int .i64 x0, .int .i64 x1, .int .i64 x2, .string x3, .string x4, .int .i64 x5, .int .i64 x6, .int .i64 x7] TC) := ⟨_, rfl⟩
    have hB : Below w.heap.size w W := by rw [hW]; exact (Below.refl _ w).alloc (Nat.le_refl _) _
    have b0 : W.heap[w.heap.size]? = some (.cells #[.int .i64 x0, .int .i64 x1, .int .i64 x2, .string x3, .string x4, .int .i64 x5, .int .i64 x6, .int .i64 x7] TC (0, 0)) := by rw [hW]; exact heap_alloc_new w _
    have HR := Aside0.mk (h.read.below hB)
    have hlt : w.heap.size < W.heap.size := by rw [hW]; simp
    have HB := Aside0.mk hB
    have HB0 := Aside0.mk b0
    unfold encC at cP cT ⊢
    clear hB b0 h
    go_enter Tryd.func32, Tryd.ntmps32
    go_wp2_with fail
    rw [← hW]
    clear hW
    refine (cP W HR.out).mono ?_
    rintro e w1 ⟨rfl, hb1⟩
    have b1' := (hb1.block _ hlt).trans HB0.out
    obtain ⟨q0, q1, q2, q3, q4, q5, q6, q7⟩ := box_cells b1'
    have HR1 := Aside0.mk (HR.out.below hb1)
    have HB1 := Aside0.mk (below_step HB.out hb1)
    clear b1' hb1
    go_wp2_with fail
    refine (cT w1 HR1.out ha).mono ?_
    rintro e w2 ⟨rfl, hb2⟩
    have HB2 := Aside0.mk (below_step HB1.out hb2)
    clear hb2 q0 q1 q2 q3 q4 q5 q6 q7
    go_wp2
    go_ret2
    exact ⟨rfl, HB2.out⟩
  · rw [if_neg g0] at hw ⊢
    have b1 : (F.placeE c == 0) = false := beq_eq_false_iff_ne.2 hw
    have b2 : (F.placeE c != 0) = true := by rw [bne_iff_ne]; exact hw
    clear hw g0 cT
    generalize F.placeE c = y at *
    obtain ⟨x0, x1, x2, x3, x4, x5, x6, x7⟩ := c
    have hB : Below w.heap.size w (w.alloc (.cells #[.int .i64 x0, .int .i64 x1, .int .i64 x2, .string x3, .string x4, .int .i64 x5, .int .i64 x6, .int .i64 x7] TC)) := (Below.refl _ w).alloc (Nat.le_refl _) _
    have HR := Aside0.mk (h.read.below hB)
    have HB := Aside0.mk hB
    unfold encC at cP ⊢
    clear hB h
    go_enter Tryd.func32, Tryd.ntmps32
    go_wp2_with (go_at_call 46; refine (cP _ HR.out).mono ?_; rintro e w1 ⟨rfl, hb1⟩)
    go_ret2
    exact ⟨rfl, below_step HB.out hb1⟩
end Go.Proofs.YtcbjkfhflmlniaaDoor.QVfs
