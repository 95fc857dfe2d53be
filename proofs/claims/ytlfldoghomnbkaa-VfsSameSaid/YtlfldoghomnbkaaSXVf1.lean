import Derived.Test.YtlfldoghomnbkaaSXVf0
import Derived.Deep.AppendLies
import Derived.StillTailTactics
import Derived.Deep.RegionLaw
import Derived.Outline
-- Texts of this seat, what the claim does not reach struck out by a program.
namespace Go.Proofs.Ytlfldoghomnbkaa.QVfs
open Go.RowKit Go.Proofs.YtlfldoghomnbkaaW.PrintWords Go.Proofs.YtlfldoghomnbkaaW.PrintLast Go.Proofs.YtlfldoghomnbkaaW.PrintMore
set_option linter.unusedVariables false
set_option linter.unusedSimpArgs false
theorem FsW.cI {base g : Nat} {F : Fs} {w : World} {v2 v3 : Value} {es : List Value} {gi cap : Nat} (h : FsW base g F w (.slice (some ⟨gi, 0, none⟩) F.I.length cap) v2 v3 es) {i : Nat} {x : Item} {e : Value} (hx : F.I[i]? = some x) (he : es[i]? = some e) (j : Nat) (hj : j < 17) :
  w.cell? ⟨gi, i * 17 + j, none⟩ = (encI x e)[j]? ∧ w.frozen? ⟨gi, i * 17 + j, none⟩ = false := by
 have hi := (List.getElem?_eq_some_iff.1 hx).1
 obtain ⟨h1, h2⟩ := own_cell h.rI (i * 17 + j) (by rw [rowsI_length F.I es h.len]; omega)
 rw [rowsI_get F.I es i j x e hx he hj] at h1
 exact ⟨h1, h2⟩
theorem FsW.cC {base g : Nat} {F : Fs} {w : World} {v1 v2 : Value} {es : List Value} {gc cap : Nat} (h : FsW base g F w v1 v2 (.slice (some ⟨gc, 0, none⟩) F.C.length cap) es) (d : Nat) (hd : d < F.C.length) :
  w.cell? ⟨gc, d, none⟩ = some (.int .i64 (F.C.getD d 0)) ∧ w.frozen? ⟨gc, d, none⟩ = false := by
 obtain ⟨h1, h2⟩ := own_cell h.rC d (by rw [nums, List.length_map]; exact hd)
 rw [nums, List.getElem?_map, List.getElem?_eq_getElem hd] at h1
 refine ⟨h1.trans ?_, h2⟩
 rw [List.getD_eq_getElem?_getD, List.getElem?_eq_getElem hd]; rfl
theorem FsW.form3 {base g : Nat} {F : Fs} {w : World} {v1 v2 v3 : Value} {es : List Value} (h : FsW base g F w v1 v2 v3 es) (hp : 0 < F.C.length) : ∃ gc cap, v3 = .slice (some ⟨gc, 0, none⟩) F.C.length cap ∧ F.C.length ≤ cap := by
 rcases h.rC.2 with ⟨_, h0⟩ | ⟨gc, cap, cur, hv, _, _, hn, _⟩
 ·omega
 ·exact ⟨gc, cap, hv, hn⟩
theorem FsW.form1 {base g : Nat} {F : Fs} {w : World} {v1 v2 v3 : Value} {es : List Value} (h : FsW base g F w v1 v2 v3 es) (hp : 0 < F.I.length) : ∃ gc cap, v1 = .slice (some ⟨gc, 0, none⟩) F.I.length cap ∧ F.I.length ≤ cap := by
 rcases h.rI.2 with ⟨_, h0⟩ | ⟨gc, cap, cur, hv, _, _, hn, _⟩
 ·omega
 ·exact ⟨gc, cap, hv, hn⟩
theorem infoI : (Try.prog.info? TI).map (fun i => (i.zero, i.size, i.bytes)) = some (some (.agg #[.int .i64 0, .int .i64 0, .int .i64 0, .int .i64 0, .int .i64 0, .int .i64 0, .int .i64 0, .int .i64 0, .int .i64 0, .int .i64 0, .int .i64 0, .int .i64 0, .string ⟨#[]⟩, .slice none 0 0, .int .i64 0, .int .i64 0, .bool false]), 17, 160) := by kernel_rfl
theorem FsW.same {base g : Nat} {F : Fs} {w w' : World} {v1 v2 v3 : Value} {es : List Value} (h : FsW base g F w v1 v2 v3 es) (hh : w'.heap = w.heap) : FsW base g F w' v1 v2 v3 es := h.move fun k _ => by rw [hh]
def Fs.make (F : Fs) (n : Node) (up : Int) : Fs := ⟨F.I ++ [⟨⟨n.f0, wrap64 (F.C.getD (n.f0 - 1).toNat 0 + 1), n.f2, n.f3, n.f4, n.f5, n.f6, n.f7, n.f8, n.f9, n.f10⟩, [], up, 0, false⟩], F.D, F.C.set (n.f0 - 1).toNat (wrap64 (F.C.getD (n.f0 - 1).toNat 0 + 1))⟩
structure Held (w w' : World) (S : Nat → Prop) : Prop where
 kept : Kept w w' S
 os : w'.os = w.os
 tape : w'.tape = w.tape
 output : w'.output = w.output
section
variable {w W W2 : World} {S S2 S' : Nat → Prop}
theorem Held.refl (w : World) (S : Nat → Prop) : Held w w S := ⟨Kept.refl w S, rfl, rfl, rfl⟩
theorem Held.of_below (h : Below w.heap.size w W) (S : Nat → Prop) : Held w W S := ⟨Kept.of_below h S, h.os, h.tape, h.output⟩
theorem Held.mono (h : Held w W S) (hs : ∀ k, S k → S' k) : Held w W S' := ⟨h.kept.mono hs, h.os, h.tape, h.output⟩
theorem Held.then_ (h : Held w W S) (k : Held W W2 S2) (hs : ∀ k, S2 k → S k ∨ w.heap.size ≤ k) : Held w W2 S := ⟨h.kept.then_ k.kept hs, k.os.trans h.os, k.tape.trans h.tape, k.output.trans h.output⟩
theorem Held.of_grown {row : Option Nat} (hg : W.grownBy W2 row) (h : Held w W S) (hr : ∀ k, row = some k → S k ∨ w.heap.size ≤ k) : Held w W2 S := ⟨Kept.of_grown hg h.kept hr, hg.os.trans h.os, hg.tape.trans h.tape, hg.output.trans h.output⟩
theorem Held.below (h : Held w W S) (hb : Below W.heap.size W W2) : Held w W2 S := ⟨h.kept.below hb, hb.os.trans h.os, hb.tape.trans h.tape, hb.output.trans h.output⟩
theorem Held.alloc (h : Held w W S) (o : Obj) : Held w (W.alloc o) S := h.below (below_alloc (Below.refl _ _) o)
theorem Held.drew (h : Held w W S) : Held w W.drew S := ⟨h.kept.drew, h.os, h.tape, h.output⟩
theorem Held.drewN (h : Held w W S) (m : Nat) : Held w (W.drewN m) S := h.below (pw_below_drewN (Below.refl _ _) m)
theorem Held.setCell (h : Held w W S) {p : Addr} (hp : S p.block ∨ w.heap.size ≤ p.block) (u : Value) : Held w (W.setCell p u) S := ⟨h.kept.setCell hp u, h.os, h.tape, h.output⟩
theorem Held.size (h : Held w W S) : w.heap.size ≤ W.heap.size := h.kept.1
theorem Held.under (h : Held w W S) {n : Nat} (hn : ∀ k, k < n → ¬ S k) (hs : n ≤ w.heap.size) : Below n w W := ⟨h.os, h.tape, h.output, h.kept.1, fun k hk => h.kept.2 k (by omega) (hn k hk)⟩
end
theorem grown_trans {w w1 w2 : World} {row : Option Nat} (h : w.grownBy w1 row) (k : w1.grownBy w2 row) : w.grownBy w2 row :=
 ⟨k.os.trans h.os, k.tape.trans h.tape, k.output.trans h.output, Nat.le_trans h.size k.size, fun i hi hr => (k.block i (Nat.lt_of_lt_of_le hi h.size) hr).trans (h.block i hi hr)⟩
theorem grown_drew {w w2 : World} {o : Obj} {row : Option Nat} (k : ((w.alloc o).drew).grownBy w2 row) : w.grownBy w2 row := by
 have h := World.grownBy_alloc w o row
 exact ⟨k.os.trans h.os, k.tape.trans h.tape, k.output.trans h.output, Nat.le_trans h.size k.size, fun i hi hr => (k.block i (Nat.lt_of_lt_of_le hi h.size) hr).trans (h.block i hi hr)⟩
theorem FsW.endI {base g : Nat} {F : Fs} {w w1 w5 : World} {v1 v2 v3 : Value} {es : List Value} {ok : Nat → Prop} {w0 : World} {g' cap : Nat} {x : Item} {o : Obj} (h : FsW base g F w v1 v2 v3 es) (hok : ∀ k, Own g v1 v2 v3 es k → ok k)
  (ho : w1.ownsRow base TI 17 (.slice (some ⟨g', 0, none⟩) (F.I.length + 1) cap) (F.I.length + 1) (rowsI F.I es ++ encI x (.slice none 0 0)))
  (hg : ((w.alloc o).drew).grownBy w1 v1.ownBlock) (hat : v1.ownBlock = some g' ∨ g' = w.heap.size + 1) (hx : x.f1 = []) (hK : Held w0 w ok) (h5 : w5 = w1.setCell ⟨g, 0, none⟩ (.slice (some ⟨g', 0, none⟩) (F.I.length + 1) cap)) :
  FsAt base g (fun k => ok k ∨ w0.heap.size ≤ k) ⟨F.I ++ [x], F.D, F.C⟩ w5 ∧ Held w0 w5 ok := by
 have hg' := grown_drew hg
 have hF := (h.appI ho hg' (hat.imp id (fun e => by omega)) hx).same (congrArg World.heap h5)
 refine ⟨⟨_, _, _, _, hF, fun k hk => ?_⟩, ?_⟩
 ·have hsz := hK.size
  rcases hk with rfl | hk | hk | hk | ⟨i, e, he, hk⟩
  ·exact .inl (hok _ (.inl rfl))
  ·have : g' = k := by simpa [Value.ownBlock] using hk
   subst this
   rcases hat with e | e
   ·exact .inl (hok _ (.inr (.inl e)))
   ·right; omega
  ·exact .inl (hok _ (.inr (.inr (.inl hk))))
  ·exact .inl (hok _ (.inr (.inr (.inr (.inl hk)))))
  ·rcases Nat.lt_or_ge i es.length with hi | hi
   ·rw [List.getElem?_append_left hi] at he
    exact .inl (hok _ (.inr (.inr (.inr (.inr ⟨i, e, he, hk⟩)))))
   ·rw [List.getElem?_append_right hi] at he
    have h0 : i - es.length = 0 := by
     have := (List.getElem?_eq_some_iff.1 he).1
     simp at this; omega
    rw [h0] at he
    obtain rfl : Value.slice none 0 0 = e := by simpa using he
    simp [Value.ownBlock] at hk
 ·rw [h5]; exact (Held.of_grown hg' hK (fun i hi => .inl (hok i (.inr (.inl hi))))).setCell (p := ⟨g, 0, none⟩) (.inl (hok g (.inl rfl))) _
set_option maxHeartbeats 4000000 in
set_option maxRecDepth 100000 in
theorem make_calls (base g : Nat) (ok : Nat → Prop) (F : Fs) (n : Node) (up : Int) (w : World) (h : FsAt base g ok F w) (hd : 1 ≤ n.f0) (hd2 : n.f0 ≤ F.C.length) (hl : F.I.length ≤ 1000) (hc : F.C.length ≤ 1000) :
  Calls Try.prog 50 #[.pointer (some ⟨g, 0, none⟩), .agg (encN n).toArray, .int .i64 up] w fun e w' => e = .returned (.int .i64 F.I.length) ∧ FsAt base g (fun k => ok k ∨ w.heap.size ≤ k) (F.make n up) w' ∧ Held w w' ok := by
 obtain ⟨v1, v2, v3, es, hF, hok⟩ := h
 obtain ⟨x0, x1, x2, x3, x4, x5, x6, x7, x8, ⟨y0, y1, y2⟩, x10⟩ := n
 simp only at hd hd2
 obtain ⟨gc, cap, rfl, hcap⟩ := hF.form3 (by omega)
 obtain ⟨d, rfl⟩ : ∃ d : Nat, x0 = (d : Int) + 1 := ⟨(x0 - 1).toNat, by omega⟩
 have hdl : d < F.C.length := by omega
 obtain ⟨k1, k2⟩ := hF.cC d hdl
 have c0 : w.cell? ⟨g, 0, none⟩ = some v1 := (blk_cell hF.blk 0).trans rfl
 have c2 : w.cell? ⟨g, 2, none⟩ = some (.slice (some ⟨gc, 0, none⟩) F.C.length cap) := (blk_cell hF.blk 2).trans rfl
 have f0 : w.frozen? ⟨g, 0, none⟩ = false := blk_frozen hF.blk 0
 have hlt := blk_lt hF.blk
 have hltc := own_lt hF.rC gc rfl
 have hF' := Aside0.mk hF
 have n0 : (d : Int) ≤ 1000 := by omega
 have n1 : (0 : Int) ≤ (d : Int) := by omega
 have n2 : (d : Int) < (F.C.length : Int) := by omega
 clear hF
 unfold encN
 obtain ⟨c, hc0⟩ : ∃ c, c = F.C.getD d 0 := ⟨_, rfl⟩
 rw [← hc0] at k1
 have HC0 := Aside0.mk hc0
 clear hc0
 go_enter Try.func50, Try.ntmps50
 go_wp2
 have hW : ∃ W : World, W = w.alloc (.cells #[.int .i64 ((d : Int) + 1), .int .i64 x1, .int .i64 x2, .int .i64 x3, .int .i64 x4, .int .i64 x5, .int .i64 x6, .int .i64 x7, .int .i64 x8, .int .i64 y0, .int .i64 y1, .int .i64 y2, .string x10] TN) := ⟨_, rfl⟩
 obtain ⟨W, hW⟩ := hW
 rw [← hW]
 have b0 : W.heap[w.heap.size]? = some (.cells #[.int .i64 ((d : Int) + 1), .int .i64 x1, .int .i64 x2, .int .i64 x3, .int .i64 x4, .int .i64 x5, .int .i64 x6, .int .i64 x7, .int .i64 x8, .int .i64 y0, .int .i64 y1, .int .i64 y2, .string x10] TN (0, 0)) := by rw [hW]; exact heap_alloc_new w _
 have hB : Below w.heap.size w W := by rw [hW]; exact (Below.refl _ w).alloc (Nat.le_refl _) _
 have hFW := Aside0.mk (hF'.out.below hB)
 replace c2 : W.cell? ⟨g, 2, none⟩ = some (.slice (some ⟨gc, 0, none⟩) F.C.length cap) := pw_cell_below hB c2
 replace k1 : W.cell? ⟨gc, d, none⟩ = some (.int .i64 c) := pw_cell_below hB k1
 replace k2 : W.frozen? ⟨gc, d, none⟩ = false := (hB.frozen (p := ⟨gc, d, none⟩) hltc).trans k2
 have b1 : W.cell? ⟨w.heap.size, 0, none⟩ = some (.int .i64 ((d : Int) + 1)) := (blk_cell b0 0).trans rfl
 clear c0 f0
 have HB0 := Aside0.mk b0
 have HBB := Aside0.mk hB
 have HWW := Aside0.mk hW
 clear b0 hB hW
 go_region
 go_wp2
 have hgb : gc ≠ w.heap.size := by omega
 have hW2 : ∃ W2 : World, W2 = (W.setCell ⟨gc, d, none⟩ (.int .i64 (wrap64 (c + 1)))).drew := ⟨_, rfl⟩
 obtain ⟨W2, hW2⟩ := hW2
 rw [← hW2]
 have hF2 := (hFW.out.setC hdl (wrap64 (c + 1))).same (w' := W2) (by rw [hW2]; rfl)
 have b0 : W2.heap[w.heap.size]? = some (.cells #[.int .i64 ((d : Int) + 1), .int .i64 x1, .int .i64 x2, .int .i64 x3, .int .i64 x4, .int .i64 x5, .int .i64 x6, .int .i64 x7, .int .i64 x8, .int .i64 y0, .int .i64 y1, .int .i64 y2, .string x10] TN (0, 0)) := by
  rw [hW2]; exact (setCell_far W gc d _ w.heap.size (fun e => hgb e.symm)).trans HB0.out
 clear c2 k1 k2 b1
 have c2 : W2.cell? ⟨g, 2, none⟩ = some (.slice (some ⟨gc, 0, none⟩) F.C.length cap) := (blk_cell hF2.blk 2).trans rfl
 have k1 : W2.cell? ⟨gc, d, none⟩ = some (.int .i64 (wrap64 (c + 1))) := by
  have := (FsW.cC (F := ⟨F.I, F.D, F.C.set d (wrap64 (c + 1))⟩) (cap := cap) (by rw [List.length_set]; exact hF2) d (by rw [List.length_set]; exact hdl)).1
  rw [this]
  simp [List.getD_eq_getElem?_getD, hdl]
 have b1 : W2.cell? ⟨w.heap.size, 0, none⟩ = some (.int .i64 ((d : Int) + 1)) := (blk_cell b0 0).trans rfl
 have b2 : W2.cell? ⟨w.heap.size, 1, none⟩ = some (.int .i64 x1) := (blk_cell b0 1).trans rfl
 have b3 : W2.frozen? ⟨w.heap.size, 1, none⟩ = false := blk_frozen b0 1
 have HF2 := Aside0.mk hF2
 have HB2 := Aside0.mk b0
 have HW2 := Aside0.mk hW2
 clear hF2 b0 hW2
 obtain ⟨c', hc1⟩ : ∃ c', c' = wrap64 (c + 1) := ⟨_, rfl⟩
 rw [← hc1] at k1 HF2 HW2 ⊢
 have HC1 := Aside0.mk hc1
 clear hc1
 go_region
 go_wp2
 have hW3 : ∃ W3 : World, W3 = (W2.setCell ⟨w.heap.size, 1, none⟩ (.int .i64 c')).drew := ⟨_, rfl⟩
 obtain ⟨W3, hW3⟩ := hW3
 rw [← hW3]
 have hF3 := HF2.out.move (w' := W3) (fun k hk => by
  rw [hW3]
  refine setCell_far W2 w.heap.size 1 _ k (fun e => ?_)
  subst e
  have := hF'.out.lt w.heap.size hk
  omega)
 have b0 : W3.heap[w.heap.size]? = some (.cells #[.int .i64 ((d : Int) + 1), .int .i64 c', .int .i64 x2, .int .i64 x3, .int .i64 x4, .int .i64 x5, .int .i64 x6, .int .i64 x7, .int .i64 x8, .int .i64 y0, .int .i64 y1, .int .i64 y2, .string x10] TN (0, 0)) := by
  rw [hW3]; exact setCell_at HB2.out 1 _
 clear c2 k1 b1 b2 b3
 have c0 : W3.cell? ⟨g, 0, none⟩ = some v1 := (blk_cell hF3.blk 0).trans rfl
 have e0 : W3.cell? ⟨w.heap.size, 0, none⟩ = some (.int .i64 ((d : Int) + 1)) := (blk_cell b0 0).trans rfl
 have e1 : W3.cell? ⟨w.heap.size, 1, none⟩ = some (.int .i64 c') := (blk_cell b0 1).trans rfl
 have e2 : W3.cell? ⟨w.heap.size, 2, none⟩ = some (.int .i64 x2) := (blk_cell b0 2).trans rfl
 have e3 : W3.cell? ⟨w.heap.size, 3, none⟩ = some (.int .i64 x3) := (blk_cell b0 3).trans rfl
 have e4 : W3.cell? ⟨w.heap.size, 4, none⟩ = some (.int .i64 x4) := (blk_cell b0 4).trans rfl
 have e5 : W3.cell? ⟨w.heap.size, 5, none⟩ = some (.int .i64 x5) := (blk_cell b0 5).trans rfl
 have e6 : W3.cell? ⟨w.heap.size, 6, none⟩ = some (.int .i64 x6) := (blk_cell b0 6).trans rfl
 have e7 : W3.cell? ⟨w.heap.size, 7, none⟩ = some (.int .i64 x7) := (blk_cell b0 7).trans rfl
 have e8 : W3.cell? ⟨w.heap.size, 8, none⟩ = some (.int .i64 x8) := (blk_cell b0 8).trans rfl
 have e9 : W3.cell? ⟨w.heap.size, 9, none⟩ = some (.int .i64 y0) := (blk_cell b0 9).trans rfl
 have e10 : W3.cell? ⟨w.heap.size, 10, none⟩ = some (.int .i64 y1) := (blk_cell b0 10).trans rfl
 have e11 : W3.cell? ⟨w.heap.size, 11, none⟩ = some (.int .i64 y2) := (blk_cell b0 11).trans rfl
 have e12 : W3.cell? ⟨w.heap.size, 12, none⟩ = some (.string x10) := (blk_cell b0 12).trans rfl
 have f0 : W3.frozen? ⟨g, 0, none⟩ = false := blk_frozen hF3.blk 0
 have hlt3 := blk_lt hF3.blk
 have HF3 := Aside0.mk hF3
 have HW3 := Aside0.mk hW3
 clear hF3 b0 hW3
 obtain ⟨i0, hi, hz0, hz1, hz2⟩ := info_parts infoI
 have hbase : base ≤ W3.heap.size := HF3.out.hi
 go_region_law (first | (refine step_append_lies _ (by rfl) _ _ _ (by rfl) base TI i0 (.agg #[.int .i64 0, .int .i64 0, .int .i64 0, .int .i64 0, .int .i64 0, .int .i64 0, .int .i64 0, .int .i64 0, .int .i64 0, .int .i64 0, .int .i64 0, .int .i64 0, .string ⟨#[]⟩, .slice none 0 0, .int .i64 0, .int .i64 0, .bool false]) 17 160 Try.underlying67 hi hz0 hz1 hz2 rfl (by omega) v1 F.I.length (rowsI F.I es) (by rfl) ((HF3.out.rI.alloc _).drew) ⟨W3.heap.size, 0, none⟩ 1 1 (encI ⟨⟨(d : Int) + 1, c', x2, x3, x4, x5, x6, x7, x8, ⟨y0, y1, y2⟩, x10⟩, [], up, 0, false⟩ (.slice none 0 0)) (by rfl) (by rfl) (World.news_of_block (t := TI) (fr := (0, 0)) (heap_alloc_new W3 _)) (by intro u hu; simp [encI] at hu; rcases hu with rfl | rfl | rfl | rfl | rfl | rfl | rfl | rfl | rfl | rfl | rfl | rfl | rfl | rfl | rfl | rfl | rfl <;> rfl) (by omega) (by unfold maxLen; omega) (by omega) (by simp; omega) (W3.heap.size + 1) (by simp) ?_; intro g' cap' w4 own4 gr hat hlt'; have hb4 : w4.heap[g]? = some (.cells #[v1, v2, .slice (some ⟨gc, 0, none⟩) F.C.length cap] TF (0, 0)) := (gr.block g (by simp; omega) (fun e => HF3.out.g1 e.symm)).trans ((heap_alloc_old W3 _ hlt3).trans HF3.out.blk); have c4 : w4.cell? ⟨g, 0, none⟩ = some v1 := (blk_cell hb4 0).trans rfl; have f4 : w4.frozen? ⟨g, 0, none⟩ = false := blk_frozen hb4 0; have O4 := Aside0.mk own4; have G4 := Aside0.mk gr; have A4 := Aside0.mk hat; clear own4 gr hat hb4))
 all_goals
  go_wp2
  go_ret
  refine ⟨by simp, ?_⟩
  rw [show F.make ⟨(d : Int) + 1, x1, x2, x3, x4, x5, x6, x7, x8, ⟨y0, y1, y2⟩, x10⟩ up = ⟨F.I ++ [⟨⟨(d : Int) + 1, c', x2, x3, x4, x5, x6, x7, x8, ⟨y0, y1, y2⟩, x10⟩, [], up, 0, false⟩], F.D, F.C.set d c'⟩ from by
   unfold Fs.make; simp only [show ((d : Int) + 1 - 1).toNat = d from by omega, ← HC0.out, ← HC1.out]]
  refine FsW.endI (w0 := w) HF3.out hok O4.out G4.out A4.out rfl ?_ rfl
  have k1 : Held w W ok := by rw [HWW.out]; exact (Held.refl w ok).alloc _
  have k2 : Held w W2 ok := by rw [HW2.out]; exact (k1.setCell (p := ⟨gc, d, none⟩) (.inl (hok gc (.inr (.inr (.inr (.inl rfl)))))) _).drew
  rw [HW3.out]
  exact (k2.setCell (p := ⟨w.heap.size, 1, none⟩) (.inr (Nat.le_refl _)) _).drew
end Go.Proofs.Ytlfldoghomnbkaa.QVfs
