import Derived.Test.YtlfldoghomnbkaaSXVf1
import Derived.Test.YtlfldoghomnbkaaSQVfsD
-- Texts of this seat, what the claim does not reach struck out by a program.
namespace Go.Proofs.Ytlfldoghomnbkaa.QVfs
open Go.RowKit Go.Proofs.YtlfldoghomnbkaaW.PrintWords Go.Proofs.YtlfldoghomnbkaaW.PrintLast Go.Proofs.YtlfldoghomnbkaaW.PrintMore
set_option linter.unusedVariables false
set_option linter.unusedSimpArgs false
def dirN (dev mode : Int) : Node := ⟨dev, 0, 2, Go.bits .and .i64 mode 4095, 0, 0, 4096, 8, 2, ⟨0, 0, 0⟩, ⟨#[]⟩⟩
theorem dirNode_calls (dev mode : Int) (w : World) : Calls Try.prog 51 #[.int .i64 dev, .int .i64 mode] w fun e w' => e = .returned (.agg (encN (dirN dev mode)).toArray) ∧ Below w.heap.size w w' :=
 vfs_dirNode.calls dev mode _ _ _ _ _ _ _ _ _ _ _ _ _ w rfl
def Fs.device (F : Fs) (mode up : Int) : Fs :=
 let F2 := Fs.make ⟨F.I, F.D, F.C ++ [0]⟩ (dirN ((F.C.length : Int) + 1) mode) up
 ⟨F2.I, F2.D ++ [(F.I.length : Int)], F2.C⟩
theorem FsAt.below {base g : Nat} {ok : Nat → Prop} {F : Fs} {w w' : World} (h : FsAt base g ok F w) (hb : Below w.heap.size w w') : FsAt base g ok F w' := by
 obtain ⟨v1, v2, v3, es, hF, hok⟩ := h
 exact ⟨v1, v2, v3, es, hF.below hb, hok⟩
theorem FsAt.weak {base g : Nat} {ok ok' : Nat → Prop} {F : Fs} {w : World} (h : FsAt base g ok F w) (hw : ∀ k, ok k → ok' k) : FsAt base g ok' F w := by
 obtain ⟨v1, v2, v3, es, hF, hok⟩ := h
 exact ⟨v1, v2, v3, es, hF, fun k hk => hw k (hok k hk)⟩
theorem FsW.endC {base g : Nat} {F : Fs} {w w1 : World} {v1 v2 v3 : Value} {es : List Value} {ok : Nat → Prop} {g' cap : Nat} {x : Int} {o : Obj} (h : FsW base g F w v1 v2 v3 es) (hok : ∀ k, Own g v1 v2 v3 es k → ok k)
  (ho : w1.ownsRow base TZ 1 (.slice (some ⟨g', 0, none⟩) (F.C.length + 1) cap) (F.C.length + 1) (nums .i64 F.C ++ [.int .i64 x])) (hg : (w.alloc o).grownBy w1 v3.ownBlock) (hat : v3.ownBlock = some g' ∨ g' = w.heap.size + 1) :
  FsAt base g (fun k => ok k ∨ w.heap.size ≤ k) ⟨F.I, F.D, F.C ++ [x]⟩ (w1.setCell ⟨g, 2, none⟩ (.slice (some ⟨g', 0, none⟩) (F.C.length + 1) cap)) ∧ Held w (w1.setCell ⟨g, 2, none⟩ (.slice (some ⟨g', 0, none⟩) (F.C.length + 1) cap)) ok := by
 have hg' := grown_trans (World.grownBy_alloc w o v3.ownBlock) hg
 refine ⟨⟨_, _, _, _, h.appC ho hg' (hat.imp id (fun e => by omega)), fun k hk => ?_⟩, ?_⟩
 ·rcases hk with hk | hk | hk | hk | hk
  ·exact .inl (hok _ (.inl hk))
  ·exact .inl (hok _ (.inr (.inl hk)))
  ·exact .inl (hok _ (.inr (.inr (.inl hk))))
  ·have : g' = k := by simpa [Value.ownBlock] using hk
   subst this
   rcases hat with e | e
   ·exact .inl (hok _ (.inr (.inr (.inr (.inl e)))))
   ·right; omega
  ·exact .inl (hok _ (.inr (.inr (.inr (.inr hk)))))
 ·exact (Held.of_grown hg' (Held.refl w ok) (fun i hi => .inl (hok i (.inr (.inr (.inr (.inl hi))))))).setCell (p := ⟨g, 2, none⟩) (.inl (hok g (.inl rfl))) _
theorem FsW.endD {base g : Nat} {F : Fs} {w w1 : World} {v1 v2 v3 : Value} {es : List Value} {ok : Nat → Prop} {g' cap : Nat} {x : Int} {o : Obj} (h : FsW base g F w v1 v2 v3 es) (hok : ∀ k, Own g v1 v2 v3 es k → ok k)
  (ho : w1.ownsRow base TZ 1 (.slice (some ⟨g', 0, none⟩) (F.D.length + 1) cap) (F.D.length + 1) (nums .i64 F.D ++ [.int .i64 x])) (hg : (w.alloc o).grownBy w1 v2.ownBlock) (hat : v2.ownBlock = some g' ∨ g' = w.heap.size + 1) :
  FsAt base g (fun k => ok k ∨ w.heap.size ≤ k) ⟨F.I, F.D ++ [x], F.C⟩ (w1.setCell ⟨g, 1, none⟩ (.slice (some ⟨g', 0, none⟩) (F.D.length + 1) cap)) ∧ Held w (w1.setCell ⟨g, 1, none⟩ (.slice (some ⟨g', 0, none⟩) (F.D.length + 1) cap)) ok := by
 have hg' := grown_trans (World.grownBy_alloc w o v2.ownBlock) hg
 refine ⟨⟨_, _, _, _, h.appD ho hg' (hat.imp id (fun e => by omega)), fun k hk => ?_⟩, ?_⟩
 ·rcases hk with hk | hk | hk | hk | hk
  ·exact .inl (hok _ (.inl hk))
  ·exact .inl (hok _ (.inr (.inl hk)))
  ·have : g' = k := by simpa [Value.ownBlock] using hk
   subst this
   rcases hat with e | e
   ·exact .inl (hok _ (.inr (.inr (.inl e))))
   ·right; omega
  ·exact .inl (hok _ (.inr (.inr (.inr (.inl hk)))))
  ·exact .inl (hok _ (.inr (.inr (.inr (.inr hk)))))
 ·exact (Held.of_grown hg' (Held.refl w ok) (fun i hi => .inl (hok i (.inr (.inr (.inl hi)))))).setCell (p := ⟨g, 1, none⟩) (.inl (hok g (.inl rfl))) _
set_option maxHeartbeats 4000000 in
set_option maxRecDepth 100000 in
theorem device_calls (base g : Nat) (ok : Nat → Prop) (F : Fs) (mode up : Int) (w : World) (h : FsAt base g ok F w) (hl : F.I.length ≤ 1000) (hc : F.C.length ≤ 999) (hd : F.D.length ≤ 1000) :
  Calls Try.prog 25 #[.pointer (some ⟨g, 0, none⟩), .int .i64 mode, .int .i64 up] w fun e w' => e = .returned (.int .i64 F.I.length) ∧ FsAt base g (fun k => ok k ∨ w.heap.size ≤ k) (F.device mode up) w' ∧ Held w w' ok := by
 obtain ⟨v1, v2, v3, es, hF, hok⟩ := h
 have k2 : w.cell? ⟨g, 2, none⟩ = some v3 := (blk_cell hF.blk 2).trans rfl
 have f2 : w.frozen? ⟨g, 2, none⟩ = false := blk_frozen hF.blk 2
 have hlt := blk_lt hF.blk
 have hbase : base ≤ w.heap.size := hF.hi
 obtain ⟨i0, hi, hz0, hz1, hz2⟩ := info_parts info3
 have HF := Aside0.mk hF
 clear hF
 go_enter Try.func25, Try.ntmps25
 go_wp2_with (at_builtin; refine wpList_append_lies _ rfl (.tmp 12) (.tmp 13) 45 rfl base TZ i0 (.int .i64 0) 1 8 Try.underlying45 hi hz0 hz1 hz2 rfl (by decide) v3 F.C.length (nums .i64 F.C) rfl (HF.out.rC.alloc _) ⟨w.heap.size, 0, none⟩ 1 1 [.int .i64 0] rfl rfl (World.news_of_block (t := TZ) (fr := (0, 0)) (heap_alloc_new w _)) (by intro u hu; simp at hu; subst hu; rfl) (by omega) (by unfold maxLen; omega) (by omega) (by simp; omega) (w.heap.size + 1) (by simp) ?_; intro g' cap' w4 own4 gr hat hlt'; have ho4 : w4.heap[g]? = w.heap[g]? := (gr.block g (by simp; omega) (fun c => HF.out.g3 c.symm)).trans (heap_alloc_old w _ hlt); have c4 : w4.cell? ⟨g, 2, none⟩ = some v3 := (World.cell?_of_block (a := ⟨g, 2, none⟩) ho4).trans k2; have f4 : w4.frozen? ⟨g, 2, none⟩ = false := (World.frozen?_of_block (a := ⟨g, 2, none⟩) ho4).trans f2; have O4 := Aside0.mk own4; have G4 := Aside0.mk gr; have A4 := Aside0.mk hat; clear own4 gr hat ho4)
 obtain ⟨hA5, hK5⟩ := FsW.endC (ok := ok) HF.out hok O4.out G4.out A4.out
 generalize hW5 : World.setCell _ _ _ = W5 at *
 have hl5 : ((F.C ++ [0]).length : Int) = (F.C.length : Int) + 1 := by simp
 clear k2 f2 c4 f4 O4 G4 A4 hW5
 have HA5 := Aside0.mk hA5
 have HK5 := Aside0.mk hK5
 clear hA5 hK5 hl5
 refine (dirNode_calls _ _ _).mono ?_
 rintro e w6 ⟨rfl, hb6⟩
 have HA6 := Aside0.mk (FsAt.below HA5.out hb6)
 have HB6 := Aside0.mk hb6
 clear hb6 HA5
 unfold encN
 go_wp2_with fail
 have hm := make_calls base g (fun k => ok k ∨ w.heap.size ≤ k) ⟨F.I, F.D, F.C ++ [0]⟩ (dirN ((F.C.length : Int) + 1) mode) up w6 HA6.out (by show (1 : Int) ≤ (F.C.length : Int) + 1; omega) (by show (F.C.length : Int) + 1 ≤ ((F.C ++ [0]).length : Int); simp) hl (by simp; omega)
 refine hm.mono ?_
 rintro e w7 ⟨rfl, hA7, hK7⟩
 obtain ⟨F7, hF7e⟩ : ∃ F7 : Fs, F7 = Fs.make ⟨F.I, F.D, F.C ++ [0]⟩ (dirN ((F.C.length : Int) + 1) mode) up := ⟨_, rfl⟩
 rw [← hF7e] at hA7
 obtain ⟨u1, u2, u3, us, hF7, hok7⟩ := hA7
 have hlD : F7.D.length = F.D.length := by rw [hF7e]; rfl
 have k1 : w7.cell? ⟨g, 1, none⟩ = some u2 := (blk_cell hF7.blk 1).trans rfl
 have f1 : w7.frozen? ⟨g, 1, none⟩ = false := blk_frozen hF7.blk 1
 have hlt7 := blk_lt hF7.blk
 have hbase7 : base ≤ w7.heap.size := hF7.hi
 have hd7 : F7.D.length ≤ 1000 := by omega
 have HF7 := Aside0.mk hF7
 have HE7 := Aside0.mk hF7e
 have HK7 := Aside0.mk hK7
 clear hF7 hF7e hK7 hlD
 go_wp2_with (at_builtin; refine wpList_append_lies _ rfl (.tmp 31) (.tmp 33) 45 rfl base TZ i0 (.int .i64 0) 1 8 Try.underlying45 hi hz0 hz1 hz2 rfl (by decide) u2 F7.D.length (nums .i64 F7.D) rfl (HF7.out.rD.alloc _) ⟨w7.heap.size, 0, none⟩ 1 1 [.int .i64 (F.I.length : Int)] rfl rfl (World.news_of_block (t := TZ) (fr := (0, 0)) (heap_alloc_new w7 _)) (by intro u hu; simp at hu; subst hu; rfl) (by omega) (by unfold maxLen; omega) (by omega) (by simp; omega) (w7.heap.size + 1) (by simp) ?_; intro g' cap' w8 own8 gr hat hlt'; have ho8 : w8.heap[g]? = w7.heap[g]? := (gr.block g (by simp; omega) (fun c => HF7.out.g2 c.symm)).trans (heap_alloc_old w7 _ hlt7); have c8 : w8.cell? ⟨g, 1, none⟩ = some u2 := (World.cell?_of_block (a := ⟨g, 1, none⟩) ho8).trans k1; have f8 : w8.frozen? ⟨g, 1, none⟩ = false := (World.frozen?_of_block (a := ⟨g, 1, none⟩) ho8).trans f1; have O8 := Aside0.mk own8; have G8 := Aside0.mk gr; have A8 := Aside0.mk hat; clear own8 gr hat ho8)
 go_ret
 obtain ⟨hA9, hK9⟩ := FsW.endD HF7.out hok7 O8.out G8.out A8.out
 have hs5 := HK5.out.size
 have hs6 := HB6.out.size
 have hs7 := HK7.out.size
 have hK6 : Held w w6 ok := HK5.out.below HB6.out
 have hK7' : Held w w7 ok := hK6.then_ HK7.out (fun k hk => hk)
 refine ⟨rfl, ?_, hK7'.then_ hK9 (fun k hk => hk.elim (fun h => h.elim .inl (fun h => .inr h)) (fun h => .inr (by omega)))⟩
 have hE : F.device mode up = ⟨F7.I, F7.D ++ [(F.I.length : Int)], F7.C⟩ := by rw [HE7.out]; rfl
 rw [hE]
 exact FsAt.weak hA9 (fun k hk => hk.elim (fun h => h.elim (fun h => h.elim .inl .inr) (fun h => .inr (by omega))) (fun h => .inr (by omega)))
def Fs.none : Fs := ⟨[], [], []⟩
def Fs.new : Fs := Fs.none.device 493 0
theorem none_at (w : World) : FsAt w.heap.size w.heap.size (fun k => w.heap.size ≤ k) Fs.none (w.alloc (.cells #[.slice none 0 0, .slice none 0 0, .slice none 0 0] TF)) := by
 refine ⟨.slice none 0 0, .slice none 0 0, .slice none 0 0, [], ?_, ?_⟩
 ·exact {
   blk := heap_alloc_new w _
   low := Nat.le_refl _
   len := rfl
   rI := own_nil _ _ _ _
   rE := fun i x e hx => by simp [Fs.none] at hx
   rD := own_nil _ _ _ _
   rC := own_nil _ _ _ _
   ne := fun k h => by simp [Value.ownBlock] at h
   neE := fun i j e f he => by simp at he }
 ·intro k hk
  rcases hk with rfl | hk | hk | hk | ⟨i, e, he, _⟩
  ·exact Nat.le_refl _
  ·simp [Value.ownBlock] at hk
  ·simp [Value.ownBlock] at hk
  ·simp [Value.ownBlock] at hk
  ·simp at he
set_option maxHeartbeats 1000000 in
theorem new_calls (w : World) :
  Calls Try.prog 11 #[] w fun e w' => e = .returned (.pointer (some ⟨w.heap.size, 0, none⟩)) ∧ FsAt w.heap.size w.heap.size (fun k => w.heap.size ≤ k) Fs.new w' ∧ Below w.heap.size w w' := by
 have h0 := none_at w
 have hB : Below w.heap.size w (w.alloc (.cells #[.slice none 0 0, .slice none 0 0, .slice none 0 0] TF)) := (Below.refl _ w).alloc (Nat.le_refl _) _
 go_enter Try.func11, Try.ntmps11
 go_wp2_with fail
 refine (device_calls w.heap.size w.heap.size (fun k => w.heap.size ≤ k) Fs.none 493 0 _ h0 (by simp [Fs.none]) (by simp [Fs.none]) (by simp [Fs.none])).mono ?_
 rintro e w1 ⟨rfl, h1, k1⟩
 go_wp2
 go_ret
 refine ⟨rfl, FsAt.weak h1 (fun k hk => hk.elim id (fun h => by simp at h; omega)), ?_⟩
 exact hB.trans (k1.under (fun k hk => by omega) (by simp))
end Go.Proofs.Ytlfldoghomnbkaa.QVfs
