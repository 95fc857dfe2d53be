import Derived.Test.YtcbjkfhflmlniaaDoorKXVf3
import Derived.Test.YtcbjkfhflmlniaaDoorKVf6
import Derived.Test.YtcbjkfhflmlniaaDoorKXVf17
import Derived.Test.YtcbjkfhflmlniaaDoorKQPerm
import Derived.StillTailTactics
-- Texts of this seat, what the claim does not reach struck out by a program.
namespace Go.Proofs.YtcbjkfhflmlniaaDoor.QVfs
open Go.RowKit Go.Proofs.YtcbjkfhflmlniaaDoorW.PrintWords Go.Proofs.YtcbjkfhflmlniaaDoorW.PrintLast Go.Proofs.YtcbjkfhflmlniaaDoorW.PrintMore
set_option linter.unusedVariables false
set_option linter.unusedSimpArgs false
abbrev TWk : Nat := 71
structure Wk where
 left : List ByteArray
 slash : Bool
 follow : Bool
 id : Int
 dir : Int
 name : ByteArray
 hops : Int
structure Env4 where
 g : Nat
 uid : Int
 gid : Int
 gw : Nat
abbrev wkCells (E : Env4) (v : Value) (S : Wk) : Array Value := #[.pointer (some ⟨E.g, 0, none⟩), .int .i64 E.uid, .int .i64 E.gid, v, .bool S.slash, .bool S.follow, .int .i64 S.id, .int .i64 S.dir, .string S.name, .int .i64 S.hops]
structure WkAt (E : Env4) (base : Nat) (ok : Nat → Prop) (F : Fs) (v : Value) (S : Wk) (W : World) : Prop where
 blk : W.heap[E.gw]? = some (.cells (wkCells E v S) TWk (0, 0))
 row : Kd.V Kd.string 9 W 0 (fun k => E.gw < k) v S.left
 fs : FsAt base E.g ok F W
 low : ∀ k, ok k → k < E.gw
section
variable {E : Env4} {base : Nat} {ok : Nat → Prop} {F : Fs} {v : Value} {S S' : Wk} {W W' : World}
theorem FsAt.move0 {g : Nat} (h : FsAt base g ok F W) (hm : ∀ k, ok k → W'.heap[k]? = W.heap[k]?) : FsAt base g ok F W' := by
 obtain ⟨v1, v2, v3, es, hF, hok⟩ := h
 exact ⟨v1, v2, v3, es, hF.move (fun k hk => hm k (hok k hk)), hok⟩
theorem WkAt.below (h : WkAt E base ok F v S W) (hb : Below W.heap.size W W') : WkAt E base ok F v S W' :=
 ⟨(hb.block _ (blk_lt h.blk)).trans h.blk, Kd.V_below h.row hb, h.fs.below hb, h.low⟩
theorem WkAt.put (h : WkAt E base ok F v S W) (j : Nat) (u : Value) (hc : (wkCells E v S).setIfInBounds j u = wkCells E v S') (hl : S'.left = S.left) : WkAt E base ok F v S' (W.setCell ⟨E.gw, j, none⟩ u) :=
 ⟨blk_put h.blk j u hc, hl ▸ Kd.V_far (p := ⟨E.gw, j, none⟩) h.row (fun k hk => by show k ≠ E.gw; omega) u, h.fs.move0 (fun k hk => Below.heap_setCell W ⟨E.gw, j, none⟩ u k (by have := h.low k hk; show k ≠ E.gw; omega)), h.low⟩
theorem WkAt.cells (h : WkAt E base ok F v S W) : W.cell? ⟨E.gw, 0, none⟩ = some (.pointer (some ⟨E.g, 0, none⟩)) ∧ W.cell? ⟨E.gw, 1, none⟩ = some (.int .i64 E.uid) ∧ W.cell? ⟨E.gw, 2, none⟩ = some (.int .i64 E.gid) ∧ W.cell? ⟨E.gw, 3, none⟩ = some v ∧ W.cell? ⟨E.gw, 4, none⟩ = some (.bool S.slash) ∧ W.cell? ⟨E.gw, 5, none⟩ = some (.bool S.follow) ∧ W.cell? ⟨E.gw, 6, none⟩ = some (.int .i64 S.id) ∧ W.cell? ⟨E.gw, 7, none⟩ = some (.int .i64 S.dir) ∧ W.cell? ⟨E.gw, 8, none⟩ = some (.string S.name) ∧ W.cell? ⟨E.gw, 9, none⟩ = some (.int .i64 S.hops) :=
 ⟨blk_cell h.blk 0, blk_cell h.blk 1, blk_cell h.blk 2, blk_cell h.blk 3, blk_cell h.blk 4, blk_cell h.blk 5, blk_cell h.blk 6, blk_cell h.blk 7, blk_cell h.blk 8, blk_cell h.blk 9⟩
theorem WkAt.marks (h : WkAt E base ok F v S W) (j : Nat) : W.frozen? ⟨E.gw, j, none⟩ = false := blk_frozen h.blk j
theorem WkAt.lt (h : WkAt E base ok F v S W) : E.gw < W.heap.size := blk_lt h.blk
theorem WkAt.set_below (h : WkAt E base ok F v S W) (j : Nat) (u : Value) : Below E.gw W (W.setCell ⟨E.gw, j, none⟩ u) := (Below.refl _ W).setCell (p := ⟨E.gw, j, none⟩) (Nat.le_refl _) u
end
theorem below_low {n : Nat} {w w' : World} (h : Below w.heap.size w w') (hn : n ≤ w.heap.size) : Below n w w' := h.mono hn
def Wk.to (F : Fs) (S : Wk) (id : Int) : Wk := { S with id := F.overE id, dir := F.overE id, name := ⟨#[]⟩ }
def Done (E : Env4) (base : Nat) (ok : Nat → Prop) (F : Fs) (S : Wk) (r : Value) (W : World) (e : Ending) (w' : World) : Prop :=
 e = .returned r ∧ (∃ v, WkAt E base ok F v S w') ∧ Below E.gw W w'
set_option maxHeartbeats 2000000 in
theorem to_calls {E : Env4} {base : Nat} {ok : Nat → Prop} {F : Fs} {v : Value} {S : Wk} (id : Int) (W : World) (h : WkAt E base ok F v S W) :
  Calls Tryd.prog 27 #[.pointer (some ⟨E.gw, 0, none⟩), .int .i64 id] W (Done E base ok F (S.to F id) (.tuple #[]) W) := by
 have HO := Aside0.mk (over_calls E.g F id W h.fs.read)
 have HW := Aside0.mk h
 obtain ⟨c0, -, -, -, -, -, c6, c7, c8, -⟩ := h.cells
 have z6 := h.marks 6
 have z7 := h.marks 7
 have z8 := h.marks 8
 obtain ⟨g, uid, gid, gw⟩ := E
 clear h
 go_enter Tryd.func27, Tryd.ntmps27
 go_wp2_with fail
 refine HO.out.mono ?_
 rintro e w' ⟨rfl, rfl⟩
 go_wp2
 go_end0
 refine ⟨rfl, ⟨v, ?_⟩, ?_⟩
 ·exact ((HW.out.put 6 _ (S' := { S with id := F.overE id }) rfl rfl).put 7 _ (S' := { S with id := F.overE id, dir := F.overE id }) rfl rfl).put 8 _ rfl rfl
 ·exact (((Below.refl _ W).setCell (p := ⟨gw, 6, none⟩) (Nat.le_refl _) _).setCell (p := ⟨gw, 7, none⟩) (Nat.le_refl _) _).setCell (p := ⟨gw, 8, none⟩) (Nat.le_refl _) _
theorem below_al {w : World} (o : Obj) : Below w.heap.size w (w.alloc o) := (Below.refl _ w).alloc (Nat.le_refl _) _
theorem bcell {W w1 : World} (hb : Below W.heap.size W w1) : (∀ b o, b < W.heap.size → w1.cell? ⟨b, o, none⟩ = W.cell? ⟨b, o, none⟩) ∧ (∀ b o, b < W.heap.size → w1.frozen? ⟨b, o, none⟩ = W.frozen? ⟨b, o, none⟩) ∧ W.heap.size ≤ w1.heap.size :=
 ⟨fun b o h => hb.cell (p := ⟨b, o, none⟩) h, fun b o h => hb.frozen (p := ⟨b, o, none⟩) h, hb.size⟩
abbrev TNo : Nat := 50
abbrev zNo : Array Value := #[.int .i64 0, .int .i64 0, .int .i64 0, .int .i64 0, .int .i64 0, .int .i64 0, .int .i64 0, .int .i64 0, .int .i64 0, .int .i64 0, .int .i64 0, .int .i64 0, .string ⟨#[]⟩]
theorem node_put (w2 : World) (g : Nat) (n : Node) (h : w2.heap[g]? = some (.cells zNo TNo (0, 0))) :
  (((((((((((((w2.setCell ⟨g, 0, none⟩ (.int .i64 n.f0)).setCell ⟨g, 1, none⟩ (.int .i64 n.f1)).setCell ⟨g, 2, none⟩ (.int .i64 n.f2)).setCell ⟨g, 3, none⟩ (.int .i64 n.f3)).setCell ⟨g, 4, none⟩ (.int .i64 n.f4)).setCell ⟨g, 5, none⟩ (.int .i64 n.f5)).setCell ⟨g, 6, none⟩ (.int .i64 n.f6)).setCell ⟨g, 7, none⟩ (.int .i64 n.f7)).setCell ⟨g, 8, none⟩ (.int .i64 n.f8)).setCell ⟨g, 9, none⟩ (.int .i64 n.f9.f0)).setCell ⟨g, 10, none⟩ (.int .i64 n.f9.f1)).setCell ⟨g, 11, none⟩ (.int .i64 n.f9.f2)).setCell ⟨g, 12, none⟩ (.string n.f10)).heap[g]? = some (.cells (encN n).toArray TNo (0, 0)) := by
 have h0 := blk_put (cs' := #[.int .i64 n.f0, .int .i64 0, .int .i64 0, .int .i64 0, .int .i64 0, .int .i64 0, .int .i64 0, .int .i64 0, .int .i64 0, .int .i64 0, .int .i64 0, .int .i64 0, .string ⟨#[]⟩]) h 0 (.int .i64 n.f0) rfl
 have h1 := blk_put (cs' := #[.int .i64 n.f0, .int .i64 n.f1, .int .i64 0, .int .i64 0, .int .i64 0, .int .i64 0, .int .i64 0, .int .i64 0, .int .i64 0, .int .i64 0, .int .i64 0, .int .i64 0, .string ⟨#[]⟩]) h0 1 (.int .i64 n.f1) rfl
 have h2 := blk_put (cs' := #[.int .i64 n.f0, .int .i64 n.f1, .int .i64 n.f2, .int .i64 0, .int .i64 0, .int .i64 0, .int .i64 0, .int .i64 0, .int .i64 0, .int .i64 0, .int .i64 0, .int .i64 0, .string ⟨#[]⟩]) h1 2 (.int .i64 n.f2) rfl
 have h3 := blk_put (cs' := #[.int .i64 n.f0, .int .i64 n.f1, .int .i64 n.f2, .int .i64 n.f3, .int .i64 0, .int .i64 0, .int .i64 0, .int .i64 0, .int .i64 0, .int .i64 0, .int .i64 0, .int .i64 0, .string ⟨#[]⟩]) h2 3 (.int .i64 n.f3) rfl
 have h4 := blk_put (cs' := #[.int .i64 n.f0, .int .i64 n.f1, .int .i64 n.f2, .int .i64 n.f3, .int .i64 n.f4, .int .i64 0, .int .i64 0, .int .i64 0, .int .i64 0, .int .i64 0, .int .i64 0, .int .i64 0, .string ⟨#[]⟩]) h3 4 (.int .i64 n.f4) rfl
 have h5 := blk_put (cs' := #[.int .i64 n.f0, .int .i64 n.f1, .int .i64 n.f2, .int .i64 n.f3, .int .i64 n.f4, .int .i64 n.f5, .int .i64 0, .int .i64 0, .int .i64 0, .int .i64 0, .int .i64 0, .int .i64 0, .string ⟨#[]⟩]) h4 5 (.int .i64 n.f5) rfl
 have h6 := blk_put (cs' := #[.int .i64 n.f0, .int .i64 n.f1, .int .i64 n.f2, .int .i64 n.f3, .int .i64 n.f4, .int .i64 n.f5, .int .i64 n.f6, .int .i64 0, .int .i64 0, .int .i64 0, .int .i64 0, .int .i64 0, .string ⟨#[]⟩]) h5 6 (.int .i64 n.f6) rfl
 have h7 := blk_put (cs' := #[.int .i64 n.f0, .int .i64 n.f1, .int .i64 n.f2, .int .i64 n.f3, .int .i64 n.f4, .int .i64 n.f5, .int .i64 n.f6, .int .i64 n.f7, .int .i64 0, .int .i64 0, .int .i64 0, .int .i64 0, .string ⟨#[]⟩]) h6 7 (.int .i64 n.f7) rfl
 have h8 := blk_put (cs' := #[.int .i64 n.f0, .int .i64 n.f1, .int .i64 n.f2, .int .i64 n.f3, .int .i64 n.f4, .int .i64 n.f5, .int .i64 n.f6, .int .i64 n.f7, .int .i64 n.f8, .int .i64 0, .int .i64 0, .int .i64 0, .string ⟨#[]⟩]) h7 8 (.int .i64 n.f8) rfl
 have h9 := blk_put (cs' := #[.int .i64 n.f0, .int .i64 n.f1, .int .i64 n.f2, .int .i64 n.f3, .int .i64 n.f4, .int .i64 n.f5, .int .i64 n.f6, .int .i64 n.f7, .int .i64 n.f8, .int .i64 n.f9.f0, .int .i64 0, .int .i64 0, .string ⟨#[]⟩]) h8 9 (.int .i64 n.f9.f0) rfl
 have h10 := blk_put (cs' := #[.int .i64 n.f0, .int .i64 n.f1, .int .i64 n.f2, .int .i64 n.f3, .int .i64 n.f4, .int .i64 n.f5, .int .i64 n.f6, .int .i64 n.f7, .int .i64 n.f8, .int .i64 n.f9.f0, .int .i64 n.f9.f1, .int .i64 0, .string ⟨#[]⟩]) h9 10 (.int .i64 n.f9.f1) rfl
 have h11 := blk_put (cs' := #[.int .i64 n.f0, .int .i64 n.f1, .int .i64 n.f2, .int .i64 n.f3, .int .i64 n.f4, .int .i64 n.f5, .int .i64 n.f6, .int .i64 n.f7, .int .i64 n.f8, .int .i64 n.f9.f0, .int .i64 n.f9.f1, .int .i64 n.f9.f2, .string ⟨#[]⟩]) h10 11 (.int .i64 n.f9.f2) rfl
 have h12 := blk_put (cs' := #[.int .i64 n.f0, .int .i64 n.f1, .int .i64 n.f2, .int .i64 n.f3, .int .i64 n.f4, .int .i64 n.f5, .int .i64 n.f6, .int .i64 n.f7, .int .i64 n.f8, .int .i64 n.f9.f0, .int .i64 n.f9.f1, .int .i64 n.f9.f2, .string n.f10]) h11 12 (.string n.f10) rfl
 exact h12
theorem node_put_below {w w2 : World} {g m : Nat} (n : Node) (hg : m ≤ g) (hb : Below m w w2) : Below m w (((((((((((((w2.setCell ⟨g, 0, none⟩ (.int .i64 n.f0)).setCell ⟨g, 1, none⟩ (.int .i64 n.f1)).setCell ⟨g, 2, none⟩ (.int .i64 n.f2)).setCell ⟨g, 3, none⟩ (.int .i64 n.f3)).setCell ⟨g, 4, none⟩ (.int .i64 n.f4)).setCell ⟨g, 5, none⟩ (.int .i64 n.f5)).setCell ⟨g, 6, none⟩ (.int .i64 n.f6)).setCell ⟨g, 7, none⟩ (.int .i64 n.f7)).setCell ⟨g, 8, none⟩ (.int .i64 n.f8)).setCell ⟨g, 9, none⟩ (.int .i64 n.f9.f0)).setCell ⟨g, 10, none⟩ (.int .i64 n.f9.f1)).setCell ⟨g, 11, none⟩ (.int .i64 n.f9.f2)).setCell ⟨g, 12, none⟩ (.string n.f10)) := (((((((((((((hb.setCell (p := ⟨g, 0, none⟩) hg (.int .i64 n.f0)).setCell (p := ⟨g, 1, none⟩) hg (.int .i64 n.f1)).setCell (p := ⟨g, 2, none⟩) hg (.int .i64 n.f2)).setCell (p := ⟨g, 3, none⟩) hg (.int .i64 n.f3)).setCell (p := ⟨g, 4, none⟩) hg (.int .i64 n.f4)).setCell (p := ⟨g, 5, none⟩) hg (.int .i64 n.f5)).setCell (p := ⟨g, 6, none⟩) hg (.int .i64 n.f6)).setCell (p := ⟨g, 7, none⟩) hg (.int .i64 n.f7)).setCell (p := ⟨g, 8, none⟩) hg (.int .i64 n.f8)).setCell (p := ⟨g, 9, none⟩) hg (.int .i64 n.f9.f0)).setCell (p := ⟨g, 10, none⟩) hg (.int .i64 n.f9.f1)).setCell (p := ⟨g, 11, none⟩) hg (.int .i64 n.f9.f2)).setCell (p := ⟨g, 12, none⟩) hg (.string n.f10))
theorem node_one {W W1 w2 : World} {n : Node} (h1 : Below W.heap.size W W1) (hb : Below W1.heap.size W1 w2) : (w2.alloc (.cells #[.int .i64 n.f0, .int .i64 n.f1, .int .i64 n.f2, .int .i64 n.f3, .int .i64 n.f4, .int .i64 n.f5, .int .i64 n.f6, .int .i64 n.f7, .int .i64 n.f8, .int .i64 n.f9.f0, .int .i64 n.f9.f1, .int .i64 n.f9.f2, .string n.f10] TNo)).heap[w2.heap.size]? = some (.cells (encN n).toArray TNo (0, 0)) ∧ Below W.heap.size W (w2.alloc (.cells #[.int .i64 n.f0, .int .i64 n.f1, .int .i64 n.f2, .int .i64 n.f3, .int .i64 n.f4, .int .i64 n.f5, .int .i64 n.f6, .int .i64 n.f7, .int .i64 n.f8, .int .i64 n.f9.f0, .int .i64 n.f9.f1, .int .i64 n.f9.f2, .string n.f10] TNo)) :=
 ⟨heap_alloc_new w2 _, below_alloc (below_step h1 hb) _⟩
theorem node_two {W W1 w2 : World} {n : Node} {g : Nat} (h0 : W1.heap[g]? = some (.cells zNo TNo (0, 0))) (hg : W.heap.size ≤ g) (h1 : Below W.heap.size W W1) (hb : Below W1.heap.size W1 w2) : (((((((((((((w2.setCell ⟨g, 0, none⟩ (.int .i64 n.f0)).setCell ⟨g, 1, none⟩ (.int .i64 n.f1)).setCell ⟨g, 2, none⟩ (.int .i64 n.f2)).setCell ⟨g, 3, none⟩ (.int .i64 n.f3)).setCell ⟨g, 4, none⟩ (.int .i64 n.f4)).setCell ⟨g, 5, none⟩ (.int .i64 n.f5)).setCell ⟨g, 6, none⟩ (.int .i64 n.f6)).setCell ⟨g, 7, none⟩ (.int .i64 n.f7)).setCell ⟨g, 8, none⟩ (.int .i64 n.f8)).setCell ⟨g, 9, none⟩ (.int .i64 n.f9.f0)).setCell ⟨g, 10, none⟩ (.int .i64 n.f9.f1)).setCell ⟨g, 11, none⟩ (.int .i64 n.f9.f2)).setCell ⟨g, 12, none⟩ (.string n.f10)).heap[g]? = some (.cells (encN n).toArray TNo (0, 0)) ∧ Below W.heap.size W (((((((((((((w2.setCell ⟨g, 0, none⟩ (.int .i64 n.f0)).setCell ⟨g, 1, none⟩ (.int .i64 n.f1)).setCell ⟨g, 2, none⟩ (.int .i64 n.f2)).setCell ⟨g, 3, none⟩ (.int .i64 n.f3)).setCell ⟨g, 4, none⟩ (.int .i64 n.f4)).setCell ⟨g, 5, none⟩ (.int .i64 n.f5)).setCell ⟨g, 6, none⟩ (.int .i64 n.f6)).setCell ⟨g, 7, none⟩ (.int .i64 n.f7)).setCell ⟨g, 8, none⟩ (.int .i64 n.f8)).setCell ⟨g, 9, none⟩ (.int .i64 n.f9.f0)).setCell ⟨g, 10, none⟩ (.int .i64 n.f9.f1)).setCell ⟨g, 11, none⟩ (.int .i64 n.f9.f2)).setCell ⟨g, 12, none⟩ (.string n.f10)) :=
 ⟨node_put w2 g n ((hb.block g (blk_lt h0)).trans h0), node_put_below n hg (below_step h1 hb)⟩
def mayB (n : Node) (u g : Int) : Bool := (perm_May.f n.f0 n.f1 n.f2 n.f3 n.f4 n.f5 n.f6 n.f7 n.f8 n.f9.f0 n.f9.f1 n.f9.f2 n.f10 u g 1).getD false
theorem may_total (n : Node) (u g : Int) : perm_May.f n.f0 n.f1 n.f2 n.f3 n.f4 n.f5 n.f6 n.f7 n.f8 n.f9.f0 n.f9.f1 n.f9.f2 n.f10 u g 1 = some (mayB n u g) := by
 have h : ∃ t, perm_bits.f n.f0 n.f1 n.f2 n.f3 n.f4 n.f5 n.f6 n.f7 n.f8 n.f9.f0 n.f9.f1 n.f9.f2 n.f10 u g = some t := by
  unfold perm_bits.f
  repeat' split
  all_goals exact ⟨_, rfl⟩
 obtain ⟨t, h⟩ := h
 unfold mayB perm_May.f
 rw [h]; rfl
def Fs.mayE (F : Fs) (u g : Int) (id : Int) (name : ByteArray) : Int := if (F.nodeN id).f2 = 2 then (if mayB (F.nodeN id) u g = true then (if 255 < name.size then 7 else 0) else 5) else 3
set_option maxHeartbeats 8000000 in
set_option maxRecDepth 100000 in
theorem may_calls {E : Env4} {base : Nat} {ok : Nat → Prop} {F : Fs} {v : Value} {S : Wk} (name : ByteArray) (W : World) (h : WkAt E base ok F v S W) :
  Calls Tryd.prog 42 #[.pointer (some ⟨E.gw, 0, none⟩), .string name] W fun e w' => e = .returned (.int .i64 (F.mayE E.uid E.gid S.id name)) ∧ Below W.heap.size W w' := by
 have HN : Aside0 (∀ w', Below W.heap.size W w' → Calls Tryd.prog 13 #[.pointer (some ⟨E.g, 0, none⟩), .int .i64 S.id] w' fun e w2 => e = .returned (.tuple #[.agg (encN (F.nodeN S.id)).toArray, .int .i64 (F.nodeE S.id)]) ∧ Below w'.heap.size w' w2) := Aside0.mk fun w' hb => node_calls E.g F S.id w' (h.fs.read.below hb)
 obtain ⟨c0, c1, c2, -, -, -, c6, -, -, -⟩ := h.cells
 have hlt := h.lt
 have HP : Aside0 (∀ w', Calls Tryd.prog 56 #[.agg (encN (F.nodeN S.id)).toArray, .agg #[.int .i64 E.uid, .int .i64 E.gid], .int .i64 1] w' fun e w2 => e = .returned (.bool (mayB (F.nodeN S.id) E.uid E.gid)) ∧ Below w'.heap.size w' w2) := Aside0.mk fun w' => perm_May.calls _ _ _ _ _ _ _ _ _ _ _ _ _ _ _ _ _ w' (may_total _ _ _)
 unfold Fs.mayE
 generalize F.nodeN S.id = n at *
 generalize F.nodeE S.id = x at *
 obtain ⟨R, hR⟩ : ∃ R, R = (if n.f2 = 2 then if mayB n E.uid E.gid = true then if 255 < name.size then (7 : Int) else 0 else 5 else 3) := ⟨_, rfl⟩
 rw [← hR]
 obtain ⟨g, uid, gid, gw⟩ := E
 obtain ⟨left, slash, follow, id, dir, nm, hops⟩ := S
 clear h
 simp only at *
 have HR := Aside0.mk hR
 clear hR
 unfold encN at HN HP
 go_enter Tryd.func42, Tryd.ntmps42
 have n0 : gw ≠ W.heap.size := by have := hlt; omega
 go_upto_region 1 with fail
 go_cut [5] (fun s5 wx => ∃ gb : Nat, s5 = .pointer (some ⟨gb, 0, none⟩) ∧ wx.heap[gb]? = some (.cells (encN n).toArray 50 (0, 0)) ∧ Below W.heap.size W wx)
 case first =>
  go_region_with ((go_at_call 13; refine (HN.out _ (by repeat (first | exact Below.refl _ _ | apply below_alloc | apply pw_below_drewN | apply below_drew1 | apply below_drew))).mono ?_; rintro e w2 ⟨rfl, hb2⟩; obtain ⟨bc2, bf2, bz2⟩ := bcell hb2))
  all_goals (go_wp2_with fail; go_meet; refine ⟨_, rfl, ?_⟩)
  all_goals first | (with_reducible refine node_one ?_ hb2; first | exact below_drew1 (Below.refl _ W) | exact Below.refl _ W) | (with_reducible refine node_two ?_ (Nat.le_refl _) ?_ hb2; (first | exact heap_alloc_new W _ | exact blk_drew (heap_alloc_new W _)); first | exact below_drew1 (below_al _) | exact below_al _)
 case rest =>
  obtain ⟨gb, rfl, hblk, hB⟩ := hcut
  have q0 : wc.cell? ⟨gb, 0, none⟩ = some (.int .i64 n.f0) := (blk_cell hblk 0).trans rfl
  have q1 : wc.cell? ⟨gb, 1, none⟩ = some (.int .i64 n.f1) := (blk_cell hblk 1).trans rfl
  have q2 : wc.cell? ⟨gb, 2, none⟩ = some (.int .i64 n.f2) := (blk_cell hblk 2).trans rfl
  have q3 : wc.cell? ⟨gb, 3, none⟩ = some (.int .i64 n.f3) := (blk_cell hblk 3).trans rfl
  have q4 : wc.cell? ⟨gb, 4, none⟩ = some (.int .i64 n.f4) := (blk_cell hblk 4).trans rfl
  have q5 : wc.cell? ⟨gb, 5, none⟩ = some (.int .i64 n.f5) := (blk_cell hblk 5).trans rfl
  have q6 : wc.cell? ⟨gb, 6, none⟩ = some (.int .i64 n.f6) := (blk_cell hblk 6).trans rfl
  have q7 : wc.cell? ⟨gb, 7, none⟩ = some (.int .i64 n.f7) := (blk_cell hblk 7).trans rfl
  have q8 : wc.cell? ⟨gb, 8, none⟩ = some (.int .i64 n.f8) := (blk_cell hblk 8).trans rfl
  have q9 : wc.cell? ⟨gb, 9, none⟩ = some (.int .i64 n.f9.f0) := (blk_cell hblk 9).trans rfl
  have q10 : wc.cell? ⟨gb, 10, none⟩ = some (.int .i64 n.f9.f1) := (blk_cell hblk 10).trans rfl
  have q11 : wc.cell? ⟨gb, 11, none⟩ = some (.int .i64 n.f9.f2) := (blk_cell hblk 11).trans rfl
  have q12 : wc.cell? ⟨gb, 12, none⟩ = some (.string n.f10) := (blk_cell hblk 12).trans rfl
  have k1 := pw_cell_below hB c1
  have k2 := pw_cell_below hB c2
  have HB := Aside0.mk hB
  have hN2 : ∀ w2, Below wc.heap.size wc w2 → Below W.heap.size W w2 := fun w2 h => below_step HB.out h
  clear hblk hB HN c0 c1 c2 c6
  by_cases hk : n.f2 = 2
  ·have HK := Aside0.mk hk
   have b1 : (n.f2 != 2) = false := by rw [hk]; rfl
   clear hk
   cases hm : mayB n uid gid with
   | false =>
    have HV : Aside0 (R = 5) := Aside0.mk (by rw [HR.out, if_pos HK.out, hm]; rfl)
    rw [hm] at HP
    clear hm
    go_wp2_with fail
    go_region_with ((go_at_call 56; refine (HP.out _).mono ?_; rintro e w2 ⟨rfl, hb2⟩))
    all_goals
     go_wp2_with fail
     go_ret
     exact ⟨by rw [HV.out]; rfl, hN2 _ (by first | exact below_step (below_drew1 (Below.refl _ _)) hb2 | exact hb2)⟩
   | true =>
    have HM := Aside0.mk hm
    rw [hm] at HP
    clear hm
    by_cases hl : 255 < name.size
    ·have HV : Aside0 (R = 7) := Aside0.mk (by rw [HR.out, if_pos HK.out, HM.out, if_pos rfl, if_pos hl])
     go_wp2_with fail
     go_region_with ((go_at_call 56; refine (HP.out _).mono ?_; rintro e w2 ⟨rfl, hb2⟩))
     all_goals
      go_wp2_with fail
      go_ret
      exact ⟨by rw [HV.out]; rfl, hN2 _ (by first | exact below_step (below_drew1 (Below.refl _ _)) hb2 | exact hb2)⟩
    ·have HV : Aside0 (R = 0) := Aside0.mk (by rw [HR.out, if_pos HK.out, HM.out, if_pos rfl, if_neg hl])
     go_wp2_with fail
     go_region_with ((go_at_call 56; refine (HP.out _).mono ?_; rintro e w2 ⟨rfl, hb2⟩))
     all_goals
      go_wp2_with fail
      go_ret
      exact ⟨by rw [HV.out]; rfl, hN2 _ (by first | exact below_step (below_drew1 (Below.refl _ _)) hb2 | exact hb2)⟩
  ·have HV : Aside0 (R = 3) := Aside0.mk (by rw [HR.out, if_neg hk])
   have b1 : (n.f2 != 2) = true := by rw [bne_iff_ne]; exact hk
   clear hk
   go_wp2_with fail
   go_ret
   exact ⟨by rw [HV.out]; rfl, HB.out⟩
end Go.Proofs.YtcbjkfhflmlniaaDoor.QVfs
