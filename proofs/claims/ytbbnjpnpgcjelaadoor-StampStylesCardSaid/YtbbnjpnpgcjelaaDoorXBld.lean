/- strings.Builder: copyCheck, WriteByte, WriteString, over a builder in a block of the caller's own. Turned from the kit's Builder1 and BuilderK (the forms '_k') to this dump, whose copyCheck ends in a refusal. -/
import Derived.Test.YtbbnjpnpgcjelaaDoorProg
import Derived.Test.YtbbnjpnpgcjelaaDoorShelf
import Derived.Shelf.Strings.BuilderF
import Derived.Lib.FrozenHead2
import Derived.Lib.OthersKept
import Derived.WalkKit
namespace Go.Proofs.YtbbnjpnpgcjelaaDoor.Bld
open Go.Shelf Go.RowKit
set_option linter.unusedVariables false
set_option linter.unusedSimpArgs false

abbrev TB : Nat := 45
abbrev TU : Nat := 5
theorem sizeB : (Tryd.prog.info? TB).map (·.size) = some 2 := by kernel_rfl
theorem liesB : liesAt Tryd.prog Tryd.prog.depth TB (2 / Tryd.prog.cellsOf TB) 0 TB 1 = true := by kernel_rfl
theorem infoU : (Tryd.prog.info? TU).map (fun i => (i.zero, i.size, i.bytes)) = some (some (.int .u8 0), 1, 1) := by kernel_rfl
/-- A builder in block b, its bytes in a row of blocks from B on. -/
def BAt (B b : Nat) (p : Value) (bs : List Value) (w : World) : Prop := ∃ v, w.heap[b]? = some (.cells #[p, v] TB (0, 0)) ∧ w.ownsRowF B TU 1 v bs.length bs ∧ v.ownBlock ≠ some b
def Blt (B b : Nat) (bs : List Value) (w : World) : Prop := BAt B b (.pointer none) bs w ∨ BAt B b (.pointer (some ⟨b, 0, none⟩)) bs w
/-- What a write leaves: all below the builder and its bytes; each block below B that is not the builder's. -/
def Kp (B b : Nat) (w w' : World) : Prop := (∀ n, n ≤ b → n ≤ B → Below n w w') ∧ (∀ k o, k < B → k ≠ b → w.heap[k]? = some o → w'.heap[k]? = some o) ∧ w.heap.size ≤ w'.heap.size
theorem Kp.refl (B b : Nat) (w : World) : Kp B b w w := ⟨fun n _ _ => Below.refl n w, fun _ _ _ _ h => h, Nat.le_refl _⟩
theorem Kp.trans {B b : Nat} {w w1 w2 : World} (h : Kp B b w w1) (k : Kp B b w1 w2) : Kp B b w w2 := ⟨fun n h1 h2 => (h.1 n h1 h2).trans (k.1 n h1 h2), fun j o h1 h2 h3 => k.2.1 j o h1 h2 (h.2.1 j o h1 h2 h3), Nat.le_trans h.2.2 k.2.2⟩
theorem lt_of_at {w : World} {b : Nat} {o : Obj} (h : w.heap[b]? = some o) : b < w.heap.size := (Array.getElem?_eq_some_iff.1 h).1
theorem set_at {w : World} {b : Nat} {cs : Array Value} {t : Nat} (h : w.heap[b]? = some (.cells cs t (0, 0))) (i : Nat) (u : Value) : (w.setCell ⟨b, i, none⟩ u).heap[b]? = some (.cells (cs.setIfInBounds i u) t (0, 0)) := by
  obtain ⟨hlt, hk⟩ := Array.getElem?_eq_some_iff.1 h
  show (w.heap.modify b _)[b]? = _
  rw [Array.getElem?_eq_getElem (by rw [Array.size_modify]; exact hlt), Array.getElem_modify_self, hk]
  rfl
theorem far_at {w : World} {b k : Nat} {o : Obj} (h : w.heap[k]? = some o) (hne : k ≠ b) (i : Nat) (u : Value) : (w.setCell ⟨b, i, none⟩ u).heap[k]? = some o := by
  rw [Below.heap_setCell _ _ _ _ (fun e => hne e)]; exact h
theorem Kp.set (B b : Nat) (w : World) (i : Nat) (u : Value) : Kp B b w (w.setCell ⟨b, i, none⟩ u) :=
  ⟨fun n h1 _ => (Below.refl n w).setCell (p := ⟨b, i, none⟩) h1 _, fun k o _ h2 h3 => far_at h3 h2 i u, (Below.refl 0 w).setCell (p := ⟨b, i, none⟩) (Nat.zero_le _) u |>.size⟩
theorem Kp.grown {B b : Nat} {w w' : World} {row : Option Nat} (hg : w.grownBy w' row) (hrow : ∀ k, row = some k → B ≤ k) (hB : B ≤ w.heap.size) : Kp B b w w' :=
  ⟨fun n _ h2 => (Below.refl n w).grown hg (Nat.le_trans h2 hB) (fun k hk => Nat.le_trans h2 (hrow k hk)), fun k o h1 _ h3 => (hg.block k (lt_of_at h3) (fun e => by have := hrow k e.symm; omega)).trans h3, (Below.refl 0 w).grown hg (Nat.zero_le _) (fun _ _ => Nat.zero_le _) |>.size⟩
theorem Kp.alloc (B b : Nat) (w : World) (o : Obj) (hB : B ≤ w.heap.size) : Kp B b w (w.alloc o) := Kp.grown (World.grownBy_alloc w o none) (fun _ h => by cases h) hB
theorem BAt.cell0 {B b : Nat} {p : Value} {bs : List Value} {w : World} (h : BAt B b p bs w) : w.cell? ⟨b, 0, none⟩ = some p := by
  obtain ⟨v, hb, _⟩ := h
  rw [Lib.cell_of_heap hb]; rfl
theorem BAt.shape {B b : Nat} {p : Value} {bs : List Value} {w : World} (h : BAt B b p bs w) : w.shape? b = some (TB, 2) := by
  obtain ⟨v, hb, _⟩ := h
  simp [World.shape?, hb]
theorem BAt.frozen0 {B b : Nat} {p : Value} {bs : List Value} {w : World} (h : BAt B b p bs w) : w.frozen? ⟨b, 0, none⟩ = false := by
  obtain ⟨v, hb, _⟩ := h
  exact Lib.frozen_of_heap hb 0
theorem BAt.used {B b : Nat} {p : Value} {bs : List Value} {w : World} (h : BAt B b p bs w) (q : Value) : BAt B b q bs (w.setCell ⟨b, 0, none⟩ q) := by
  obtain ⟨v, hb, hown, hne⟩ := h
  refine ⟨v, set_at hb 0 q, ?_, hne⟩
  refine ⟨hown.1, ?_⟩
  rcases hown.2 with hn | ⟨g, cap, cur, fz, hv, hg, hk, r⟩
  · exact .inl hn
  · exact .inr ⟨g, cap, cur, fz, hv, hg, far_at hk (fun e => hne (by rw [hv, e]; rfl)) 0 q, r⟩
theorem BAt.put {B b : Nat} {p v v' : Value} {bs : List Value} {w : World} (hb : w.heap[b]? = some (.cells #[p, v] TB (0, 0))) (hown : w.ownsRowF B TU 1 v' bs.length bs) : BAt B b p bs (w.setCell ⟨b, 1, none⟩ v') := by
  have hne : v'.ownBlock ≠ some b := by
    intro e
    rcases hown.2 with ⟨hn, _⟩ | ⟨g, cap, cur, fz, hv, hg, hk, r⟩
    · rw [hn] at e; cases e
    · rw [hv] at e
      obtain rfl : g = b := Option.some.inj e
      rw [hb] at hk
      cases hk
  refine ⟨v', set_at hb 1 v', ?_, hne⟩
  refine ⟨hown.1, ?_⟩
  rcases hown.2 with hn | ⟨g, cap, cur, fz, hv, hg, hk, r⟩
  · exact .inl hn
  · exact .inr ⟨g, cap, cur, fz, hv, hg, far_at hk (fun e => hne (by rw [hv, e]; rfl)) 1 v', r⟩
theorem Blt.fresh (B : Nat) (w : World) : Blt B w.heap.size [] (w.alloc (.cells #[.pointer none, .slice none 0 0] TB)) :=
  .inl ⟨.slice none 0 0, heap_alloc_new w _, ⟨rfl, .inl ⟨rfl, rfl⟩⟩, by simp [Value.ownBlock]⟩
theorem BAt.kept {B b : Nat} {p : Value} {bs : List Value} {w w' : World} (h : BAt B b p bs w) (hk : Below w.heap.size w w') : BAt B b p bs w' := by
  obtain ⟨v, hb, hown, hne⟩ := h
  refine ⟨v, (hk.block b (lt_of_at hb)).trans hb, ⟨hown.1, ?_⟩, hne⟩
  rcases hown.2 with hn | ⟨g, cap, cur, fz, hv, hg, hk2, r⟩
  · exact .inl hn
  · exact .inr ⟨g, cap, cur, fz, hv, hg, (hk.block g (lt_of_at hk2)).trans hk2, r⟩
theorem Blt.kept {B b : Nat} {bs : List Value} {w w' : World} (h : Blt B b bs w) (hk : Below w.heap.size w w') : Blt B b bs w' := h.elim (fun h => .inl (h.kept hk)) (fun h => .inr (h.kept hk))
theorem Kp.below {B b : Nat} {w w' : World} (h : Below w.heap.size w w') (hB : B ≤ w.heap.size) : Kp B b w w' := ⟨fun n _ h2 => h.mono (Nat.le_trans h2 hB), fun k o _ _ h3 => (h.block k (lt_of_at h3)).trans h3, h.size⟩
theorem Blt.lib {B b n : Nat} {bs : List Value} {w : World} (h : Blt B b bs w) (h1 : n ≤ b) (h2 : n ≤ B) : Lib.IsBuilderF TB TU n b bs w := by
  have go : ∀ p, BAt B b p bs w → Lib.BuilderAtF TB TU n b p bs w := by
    rintro p ⟨v, hb, hown, hne⟩
    refine ⟨h1, v, hb, ⟨hown.1, ?_⟩, hne⟩
    rcases hown.2 with hn | ⟨g, cap, cur, fz, hv, hg, r⟩
    · exact .inl hn
    · exact .inr ⟨g, cap, cur, fz, hv, Nat.le_trans h2 hg, r⟩
  exact h.elim (fun h => .inl (go _ h)) (fun h => .inr (go _ h))
theorem copy_fresh (b : Nat) (w : World) (h0 : w.cell? ⟨b, 0, none⟩ = some (.pointer none)) (hsh : w.shape? b = some (TB, 2)) (hfz : w.frozen? ⟨b, 0, none⟩ = false) :
    Calls Tryd.prog 30 #[.pointer (some ⟨b, 0, none⟩)] w fun e w' => e = .returned (.tuple #[]) ∧ w' = w.setCell ⟨b, 0, none⟩ (.pointer (some ⟨b, 0, none⟩)) := by
  obtain ⟨j, hj, hjs⟩ := Option.map_eq_some_iff.1 sizeB
  go_enter Tryd.func30, Tryd.ntmps30
  go_wp2
  rw [Lib.run_to_unsafe w ⟨b, 0, none⟩ Tryd.underlying42 Tryd.underlying68 hj (by rw [hjs]; decide) hsh (Nat.zero_lt_succ 1)]
  simp only [Result.andThen]
  rw [Oper.upon_value]
  go_wp2
  rw [run_callFunc_extern Tryd.func39 (by kernel_rfl) (by kernel_rfl) (by kernel_rfl) (e := Extern.AbiNoEscape.same) (by kernel_rfl)]
  rw [Lib.run_noEscape]
  simp only [Result.andThen]
  rw [Oper.upon_value]
  go_wp2
  rw [Lib.run_from_unsafe w ⟨b, 0, none⟩ Tryd.underlying68 Tryd.underlying42 hj hsh liesB]
  simp only [Result.andThen]
  rw [Oper.upon_value]
  go_wp2
  go_end0
  exact ⟨rfl, rfl⟩
theorem copy_used (b : Nat) (w : World) (h0 : w.cell? ⟨b, 0, none⟩ = some (.pointer (some ⟨b, 0, none⟩))) :
    Calls Tryd.prog 30 #[.pointer (some ⟨b, 0, none⟩)] w fun e w' => e = .returned (.tuple #[]) ∧ w' = w := by
  obtain ⟨j, hj, _⟩ := Option.map_eq_some_iff.1 sizeB
  go_enter Tryd.func30, Tryd.ntmps30
  go_wp2
  rw [Lib.run_neq_ptr_same w _ Tryd.underlying42 hj]
  go_wp2
  go_end0
  exact ⟨rfl, rfl⟩
theorem copyCheck (B b : Nat) (bs : List Value) (w : World) (h : Blt B b bs w) :
    Calls Tryd.prog 30 #[.pointer (some ⟨b, 0, none⟩)] w fun e w' => e = .returned (.tuple #[]) ∧ (BAt B b (.pointer (some ⟨b, 0, none⟩)) bs w' ∧ Kp B b w w') := by
  rcases h with h | h
  · refine (copy_fresh b w h.cell0 h.shape h.frozen0).mono ?_
    rintro e w' ⟨rfl, rfl⟩
    exact ⟨rfl, h.used _, Kp.set B b w 0 _⟩
  · refine (copy_used b w h.cell0).mono ?_
    rintro e w' ⟨rfl, rfl⟩
    exact ⟨rfl, h, Kp.refl B b _⟩
set_option maxHeartbeats 2000000 in
theorem writeByte (B b : Nat) (bs : List Value) (c : Int) (w : World) (h : Blt B b bs w) (hlen : bs.length + 1 ≤ 140737488355328) (hBw : B ≤ w.heap.size) :
    Calls Tryd.prog 23 #[.pointer (some ⟨b, 0, none⟩), .int .u8 c] w fun e w' => e = .returned .nilIface ∧ (Blt B b (bs ++ [.int .u8 c]) w' ∧ Kp B b w w') := by
  obtain ⟨i0, hi, hz0, hz1, hz2⟩ := info_parts infoU
  go_enter Tryd.func23, Tryd.ntmps23
  go_wp2_with (go_at_call 30; refine (copyCheck B b bs _ h).mono ?_)
  rintro e w1 ⟨rfl, h1, hk1⟩
  obtain ⟨v, hbk, hown, hne⟩ := h1
  have c0 : w1.cell? ⟨b, 0, none⟩ = some (.pointer (some ⟨b, 0, none⟩)) := by rw [Lib.cell_of_heap hbk]; rfl
  have c1 : w1.cell? ⟨b, 1, none⟩ = some v := by rw [Lib.cell_of_heap hbk]; rfl
  have hs1 := hk1.2.2
  go_wp2_with (at_builtin; refine wpList_append_ownF _ rfl _ _ 43 rfl B TU i0 (.int .u8 0) 1 1 Tryd.underlying43 hi hz0 hz1 hz2 rfl (by decide) _ _ _ rfl (hown.alloc _) ⟨w1.heap.size, 0, none⟩ 1 1 [.int .u8 c] rfl rfl ?c1 ?c2 ?c3 ?c4 ?c5 ?_)
  case c1 =>
    intro j u hj
    match j, hj with
    | 0, hj => simp at hj; subst hj; simp [Addr.add]
  case c2 => intro u hu; simp at hu; subst hu; rfl
  case c3 => unfold maxLen; omega
  case c4 => omega
  case c5 => simp; omega
  intro v' w2 hown' hgrow _
  have hlt := lt_of_at hbk
  have hb2 : w2.heap[b]? = some (.cells #[.pointer (some ⟨b, 0, none⟩), v] TB (0, 0)) := by
    rw [hgrow.block b (by simp; omega) (fun e => hne e.symm), Lib.alloc_old w1 _ b hlt]
    exact hbk
  have d0 : w2.cell? ⟨b, 0, none⟩ = some (.pointer (some ⟨b, 0, none⟩)) := by rw [Lib.cell_of_heap hb2]; rfl
  have d1 : w2.cell? ⟨b, 1, none⟩ = some v := by rw [Lib.cell_of_heap hb2]; rfl
  have f1 : w2.frozen? ⟨b, 1, none⟩ = false := Lib.frozen_of_heap hb2 1
  obtain ⟨g, cap, rfl⟩ : ∃ g cap, v' = .slice (some ⟨g, 0, none⟩) (bs.length + 1) cap := by
    rcases hown'.2 with ⟨_, h0⟩ | ⟨g, cap, cur, fz, hv, _⟩
    · omega
    · exact ⟨g, cap, hv⟩
  go_wp2
  go_ret
  refine ⟨rfl, .inr (BAt.put hb2 (bs := bs ++ [.int .u8 c]) (by simpa using hown')), ?_⟩
  exact ((hk1.trans (Kp.alloc B b w1 _ (by omega))).trans (Kp.grown hgrow (fun k hk => (hown.lt k hk).1) (by simp; omega))).trans (Kp.set B b w2 1 _)
set_option maxHeartbeats 2000000 in
theorem writeString (B b : Nat) (bs : List Value) (s : ByteArray) (w : World) (h : Blt B b bs w) (hlen : bs.length + s.size ≤ 140737488355328) (hBw : B ≤ w.heap.size) :
    Calls Tryd.prog 22 #[.pointer (some ⟨b, 0, none⟩), .string s] w fun e w' => e = .returned (.tuple #[.int .i64 s.size, .nilIface]) ∧ (Blt B b (bs ++ Lib.strCells s) w' ∧ Kp B b w w') := by
  obtain ⟨i0, hi, hz0, hz1, hz2⟩ := info_parts infoU
  go_enter Tryd.func22, Tryd.ntmps22
  go_wp2_with (go_at_call 30; refine (copyCheck B b bs _ h).mono ?_)
  rintro e w1 ⟨rfl, h1, hk1⟩
  obtain ⟨v, hbk, hown, hne⟩ := h1
  have c0 : w1.cell? ⟨b, 0, none⟩ = some (.pointer (some ⟨b, 0, none⟩)) := by rw [Lib.cell_of_heap hbk]; rfl
  have c1 : w1.cell? ⟨b, 1, none⟩ = some v := by rw [Lib.cell_of_heap hbk]; rfl
  have hs1 := hk1.2.2
  go_wp2_with (at_builtin; refine Lib.wpList_append_own_stringF _ rfl _ _ 43 9 rfl B TU i0 Tryd.underlying43 Tryd.underlying9 hi hz0 hz1 hz2 _ _ _ rfl hown s rfl ?c3 ?c4 ?c5 ?_)
  case c3 => unfold maxLen; omega
  case c4 => omega
  case c5 => omega
  intro v' w2 hown' hgrow _
  have hlt := lt_of_at hbk
  have hb2 : w2.heap[b]? = some (.cells #[.pointer (some ⟨b, 0, none⟩), v] TB (0, 0)) := by
    rw [hgrow.block b hlt (fun e => hne e.symm)]
    exact hbk
  have d0 : w2.cell? ⟨b, 0, none⟩ = some (.pointer (some ⟨b, 0, none⟩)) := by rw [Lib.cell_of_heap hb2]; rfl
  have d1 : w2.cell? ⟨b, 1, none⟩ = some v := by rw [Lib.cell_of_heap hb2]; rfl
  have f1 : w2.frozen? ⟨b, 1, none⟩ = false := Lib.frozen_of_heap hb2 1
  obtain ⟨ao, n', cap, rfl⟩ : ∃ ao n' cap, v' = .slice ao n' cap := by
    rcases hown'.2 with ⟨hv, _⟩ | ⟨g, cap, cur, fz, hv, _⟩
    · exact ⟨_, _, _, hv⟩
    · exact ⟨_, _, _, hv⟩
  go_wp2
  go_ret2
  refine ⟨rfl, .inr (BAt.put hb2 (bs := bs ++ Lib.strCells s) (by simpa [Lib.strCells_length] using hown')), ?_⟩
  exact (hk1.trans (Kp.grown hgrow (fun k hk => (hown.lt k hk).1) (by omega))).trans (Kp.set B b w2 1 _)
end Go.Proofs.YtbbnjpnpgcjelaaDoor.Bld
