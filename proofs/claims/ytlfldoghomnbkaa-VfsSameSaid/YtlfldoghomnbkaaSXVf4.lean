import Derived.Test.YtlfldoghomnbkaaSXVf1
-- Texts of this seat, what the claim does not reach struck out by a program.
namespace Go.Proofs.Ytlfldoghomnbkaa.QVfs
open Go.RowKit Go.Proofs.YtlfldoghomnbkaaW.PrintWords Go.Proofs.YtlfldoghomnbkaaW.PrintLast Go.Proofs.YtlfldoghomnbkaaW.PrintMore
set_option linter.unusedVariables false
set_option linter.unusedSimpArgs false
abbrev Chg := S33
abbrev TC : Nat := 33
def encC (x : Chg) : List Value := [.int .i64 x.f0, .int .i64 x.f1, .int .i64 x.f2, .string x.f3, .string x.f4, .int .i64 x.f5, .int .i64 x.f6, .int .i64 x.f7]
theorem infoE : (Try.prog.info? TE).map (fun i => (i.zero, i.size, i.bytes)) = some (some (.agg #[.string ⟨#[]⟩, .int .i64 0]), 2, 24) := by kernel_rfl
def linked (n : Node) : Node := ⟨n.f0, n.f1, n.f2, n.f3, n.f4, n.f5, n.f6, n.f7, wrap64 (n.f8 + 1), n.f9, n.f10⟩
def Item.linked (x : Item) : Item := ⟨QVfs.linked x.f0, x.f1, x.f2, x.f3, x.f4⟩
def zI : Item := z74
def Fs.at (F : Fs) (i : Nat) : Item := F.I.getD i zI
def Fs.put (F : Fs) (a : Nat) (name : ByteArray) (id : Nat) : Fs :=
 let J := F.I.set a ⟨(F.at a).f0, (F.at a).f1 ++ [⟨name, id⟩], (F.at a).f2, (F.at a).f3, (F.at a).f4⟩
 if (J.getD id zI).f0.f2 = 2 then ⟨J.set a (Item.linked (J.getD a zI)), F.D, F.C⟩ else ⟨J.set id (Item.linked (J.getD id zI)), F.D, F.C⟩
theorem FsW.endE {base g : Nat} {F : Fs} {w w1 w5 : World} {v2 v3 : Value} {es : List Value} {ok : Nat → Prop} {w0 : World} {gi capi g' cap i : Nat} {x : Item} {e : Value} {y : Entry} {o : Obj} (h : FsW base g F w (.slice (some ⟨gi, 0, none⟩) F.I.length capi) v2 v3 es) (hok : ∀ k, Own g (.slice (some ⟨gi, 0, none⟩) F.I.length capi) v2 v3 es k → ok k ∨ w0.heap.size ≤ k)
  (hx : F.I[i]? = some x) (he : es[i]? = some e)
  (ho : w1.ownsRow base TE 2 (.slice (some ⟨g', 0, none⟩) (x.f1.length + 1) cap) (x.f1.length + 1) (encE x.f1 ++ [.string y.f0, .int .i64 y.f1]))
  (hg : ((w.alloc o).drew).grownBy w1 e.ownBlock) (hat : e.ownBlock = some g' ∨ g' = w.heap.size + 1) (hK : Held w0 w ok) (h5 : w5 = w1.setCell ⟨gi, i * 17 + 13, none⟩ (.slice (some ⟨g', 0, none⟩) (x.f1.length + 1) cap)) :
  FsW base g ⟨F.I.set i ⟨x.f0, x.f1 ++ [y], x.f2, x.f3, x.f4⟩, F.D, F.C⟩ w5 (.slice (some ⟨gi, 0, none⟩) F.I.length capi) v2 v3 (es.set i (.slice (some ⟨g', 0, none⟩) (x.f1.length + 1) cap)) ∧
   (∀ k, Own g (.slice (some ⟨gi, 0, none⟩) F.I.length capi) v2 v3 (es.set i (.slice (some ⟨g', 0, none⟩) (x.f1.length + 1) cap)) k → ok k ∨ w0.heap.size ≤ k) ∧ Held w0 w5 ok := by
 have hg' := grown_drew hg
 refine ⟨(h.appE hx he ho hg' (hat.imp id (fun e => by omega))).same (congrArg World.heap h5), fun k hk => ?_, ?_⟩
 ·have hsz := hK.size
  rcases hk with hk | hk | hk | hk | ⟨j, f, hf, hk⟩
  ·exact hok _ (.inl hk)
  ·exact hok _ (.inr (.inl hk))
  ·exact hok _ (.inr (.inr (.inl hk)))
  ·exact hok _ (.inr (.inr (.inr (.inl hk))))
  ·rw [List.getElem?_set] at hf
   by_cases c : i = j
   ·subst c
    rw [if_pos rfl, if_pos (List.getElem?_eq_some_iff.1 he).1] at hf
    obtain rfl := Option.some.inj hf
    have : g' = k := by simpa [Value.ownBlock] using hk
    subst this
    rcases hat with c | c
    ·exact hok _ (.inr (.inr (.inr (.inr ⟨i, e, he, c⟩))))
    ·right; omega
   ·rw [if_neg c] at hf
    exact hok _ (.inr (.inr (.inr (.inr ⟨j, f, hf, hk⟩))))
 ·rw [h5]; exact (Held.of_grown hg' hK (fun k hk => hok k (.inr (.inr (.inr (.inr ⟨i, e, he, hk⟩)))))).setCell (p := ⟨gi, i * 17 + 13, none⟩) (hok gi (.inr (.inl rfl))) _
set_option maxHeartbeats 4000000 in
set_option maxRecDepth 100000 in
theorem put_calls (base g : Nat) (ok : Nat → Prop) (F : Fs) (c : Chg) (a id : Nat) (w : World) (h : FsAt base g ok F w) (ha : c.f1 = a) (hal : a < F.I.length) (hid : id < F.I.length) (hl : F.I.length ≤ 1000) (hb : (F.at a).f1.length ≤ 100000) :
  Calls Try.prog 54 #[.pointer (some ⟨g, 0, none⟩), .agg (encC c).toArray, .int .i64 id] w fun e w' => e = .returned (.tuple #[]) ∧ FsAt base g (fun k => ok k ∨ w.heap.size ≤ k) (F.put a c.f3 id) w' ∧ Held w w' ok := by
 obtain ⟨v1, v2, v3, es, hF, hok⟩ := h
 obtain ⟨x0, x1, x2, x3, x4, x5, x6, x7⟩ := c
 obtain rfl : x1 = (a : Int) := ha
 obtain ⟨gi, capi, rfl, hcap⟩ := hF.form1 (by omega)
 have hlt := blk_lt hF.blk
 have hlti := own_lt hF.rI gi rfl
 obtain ⟨x, hx⟩ : ∃ x, F.I[a]? = some x := ⟨_, List.getElem?_eq_getElem hal⟩
 obtain ⟨e, he⟩ : ∃ e, es[a]? = some e := ⟨_, List.getElem?_eq_getElem (by rw [← hF.len]; exact hal)⟩
 have hxa : F.at a = x := by unfold Fs.at; rw [List.getD_eq_getElem?_getD, hx]; rfl
 rw [hxa] at hb
 obtain ⟨W, hW⟩ : ∃ W : World, W = w.alloc (.cells #[.int .i64 x0, .int .i64 (a : Int), .int .i64 x2, .string x3, .string x4, .int .i64 x5, .int .i64 x6, .int .i64 x7] TC) := ⟨_, rfl⟩
 have hB : Below w.heap.size w W := by rw [hW]; exact (Below.refl _ w).alloc (Nat.le_refl _) _
 have b0 : W.heap[w.heap.size]? = some (.cells #[.int .i64 x0, .int .i64 (a : Int), .int .i64 x2, .string x3, .string x4, .int .i64 x5, .int .i64 x6, .int .i64 x7] TC (0, 0)) := by rw [hW]; exact heap_alloc_new w _
 have hF1 := hF.below hB
 have k0 : W.cell? ⟨g, 0, none⟩ = some (.slice (some ⟨gi, 0, none⟩) F.I.length capi) := (blk_cell hF1.blk 0).trans rfl
 have k1 : W.cell? ⟨w.heap.size, 1, none⟩ = some (.int .i64 (a : Int)) := (blk_cell b0 1).trans rfl
 have k3 : W.cell? ⟨w.heap.size, 3, none⟩ = some (.string x3) := (blk_cell b0 3).trans rfl
 obtain ⟨q1, q2⟩ := hF1.cI hx he 13 (by omega)
 replace q1 : W.cell? ⟨gi, a * 17 + 13, none⟩ = some e := q1
 have n1 : (0 : Int) ≤ (a : Int) := by omega
 have n2 : (a : Int) < (F.I.length : Int) := by omega
 have n3 : (0 : Int) ≤ (id : Int) := by omega
 have n4 : (id : Int) < (F.I.length : Int) := by omega
 have hkept : Held w W ok := by rw [hW]; exact (Held.refl w ok).alloc _
 have HF := Aside0.mk hF1
 have HX := Aside0.mk (And.intro hx he)
 have HW := Aside0.mk hW
 have HB := Aside0.mk hB
 have HK := Aside0.mk hkept
 clear hF hF1 hx he hB hkept b0 hxa
 unfold encC
 obtain ⟨i0, hi, hz0, hz1, hz2⟩ := info_parts infoE
 go_enter Try.func54, Try.ntmps54
 go_wp2
 rw [← hW]
 clear hW
 go_region
 go_wp2
 obtain ⟨W2, hW2⟩ : ∃ W2 : World, W2 = W.drew := ⟨_, rfl⟩
 rw [← hW2]
 have hh2 : W2.heap = W.heap := by rw [hW2]; rfl
 have hF2 := HF.out.same hh2
 replace k0 : W2.cell? ⟨g, 0, none⟩ = some (.slice (some ⟨gi, 0, none⟩) F.I.length capi) := by rw [hW2]; exact k0
 replace k3 : W2.cell? ⟨w.heap.size, 3, none⟩ = some (.string x3) := by rw [hW2]; exact k3
 replace q1 : W2.cell? ⟨gi, a * 17 + 13, none⟩ = some e := by rw [hW2]; exact q1
 replace q2 : W2.frozen? ⟨gi, a * 17 + 13, none⟩ = false := by rw [hW2]; exact q2
 have hK2 : Held w W2 ok := by rw [hW2]; exact HK.out.drew
 have hent := hF2.rE a x e HX.out.1 HX.out.2
 have hltg : gi < W2.heap.size := own_lt hF2.rI gi rfl
 have hbase : base ≤ W2.heap.size := hF2.hi
 have hsz := HK.out.size
 clear k1
 have HF2 := Aside0.mk hF2
 have HK2 := Aside0.mk hK2
 have HE := Aside0.mk hent
 clear hF2 hK2 hent hW2 hh2
 go_region_law (first | (refine step_append_lies _ (by rfl) _ _ _ (by rfl) base TE i0 (.agg #[.string ⟨#[]⟩, .int .i64 0]) 2 24 Try.underlying57 hi hz0 hz1 hz2 rfl (by omega) e x.f1.length (encE x.f1) (by rfl) ((HE.out.alloc _).drew) ⟨W2.heap.size, 0, none⟩ 1 1 [.string x3, .int .i64 (id : Int)] (by rfl) (by rfl) (World.news_of_block (t := TE) (fr := (0, 0)) (heap_alloc_new W2 _)) (by intro u hu; simp at hu; rcases hu with rfl | rfl <;> rfl) (by omega) (by unfold maxLen; omega) (by omega) (by simp; omega) (W2.heap.size + 1) (by simp) ?_; intro g' cap' w4 own4 gr hat hlt'; have ho4 : w4.heap[gi]? = W2.heap[gi]? := (gr.block gi (by first | (simp; done) | (simp; omega)) (fun c => HF2.out.n1E HX.out.2 gi rfl c.symm)).trans (heap_alloc_old W2 _ hltg); have c4 : w4.cell? ⟨gi, a * 17 + 13, none⟩ = some e := (World.cell?_of_block (a := ⟨gi, a * 17 + 13, none⟩) ho4).trans q1; have f4 : w4.frozen? ⟨gi, a * 17 + 13, none⟩ = false := (World.frozen?_of_block (a := ⟨gi, a * 17 + 13, none⟩) ho4).trans q2; have O4 := Aside0.mk own4; have G4 := Aside0.mk gr; have A4 := Aside0.mk hat; clear own4 gr hat ho4))
 all_goals
  generalize hW5 : World.setCell _ _ _ = W5
  obtain ⟨hF5, hok5, hK5⟩ := FsW.endE (ok := ok) (w0 := w) (w5 := W5) (y := ⟨x3, id⟩) HF2.out (fun k hk => .inl (hok k hk)) HX.out.1 HX.out.2 O4.out G4.out A4.out HK2.out hW5.symm
  clear hW5 k0 k3 q1 q2 c4 f4 O4 G4 A4
  obtain ⟨x', hx'⟩ : ∃ x' : Item, x' = ⟨x.f0, x.f1 ++ [⟨x3, id⟩], x.f2, x.f3, x.f4⟩ := ⟨_, rfl⟩
  obtain ⟨e', he'⟩ : ∃ e' : Value, e' = .slice (some ⟨g', 0, none⟩) (x.f1.length + 1) cap' := ⟨_, rfl⟩
  rw [← hx', ← he'] at hF5
  rw [← he'] at hok5
  have hlJ : (F.I.set a x').length = F.I.length := List.length_set
  obtain ⟨y, hy⟩ : ∃ y, (F.I.set a x')[id]? = some y := ⟨_, List.getElem?_eq_getElem (by rw [hlJ]; exact hid)⟩
  obtain ⟨f, hf⟩ : ∃ f, (es.set a e')[id]? = some f := ⟨_, List.getElem?_eq_getElem (by rw [List.length_set, ← HF.out.len]; exact hid)⟩
  have hxa : (F.I.set a x')[a]? = some x' := by rw [List.getElem?_set, if_pos rfl, if_pos hal]
  have hea : (es.set a e')[a]? = some e' := by rw [List.getElem?_set, if_pos rfl, if_pos (by rw [← HF.out.len]; exact hal)]
  have hF5' : FsW base g ⟨F.I.set a x', F.D, F.C⟩ W5 (.slice (some ⟨gi, 0, none⟩) (F.I.set a x').length capi) v2 v3 (es.set a e') := by rw [hlJ]; exact hF5
  have k0 : W5.cell? ⟨g, 0, none⟩ = some (.slice (some ⟨gi, 0, none⟩) F.I.length capi) := (blk_cell hF5.blk 0).trans rfl
  have q2 : W5.cell? ⟨gi, id * 17 + 2, none⟩ = some (.int .i64 y.f0.f2) := (hF5'.cI hy hf 2 (by omega)).1
  have hput : F.put a x3 id = if y.f0.f2 = 2 then ⟨(F.I.set a x').set a (Item.linked x'), F.D, F.C⟩ else ⟨(F.I.set a x').set id (Item.linked y), F.D, F.C⟩ := by
   have e1 : F.at a = x := by unfold Fs.at; rw [List.getD_eq_getElem?_getD, HX.out.1]; rfl
   unfold Fs.put
   simp only [e1, ← hx']
   rw [show (F.I.set a x').getD id zI = y from by rw [List.getD_eq_getElem?_getD, hy]; rfl, show (F.I.set a x').getD a zI = x' from by rw [List.getD_eq_getElem?_getD, hxa]; rfl]
  by_cases hk : y.f0.f2 = 2
  ·have b2 : (y.f0.f2 == 2) = true := beq_iff_eq.2 hk
   rw [if_pos hk] at hput
   obtain ⟨q8, f8⟩ := hF5'.cI hxa hea 8 (by omega)
   replace q8 : W5.cell? ⟨gi, a * 17 + 8, none⟩ = some (.int .i64 x'.f0.f8) := q8
   have hfin := hF5'.setI' hxa hea (j := 8) (x' := Item.linked x') (u := .int .i64 (wrap64 (x'.f0.f8 + 1))) (by omega) rfl rfl
   have HFin := Aside0.mk hfin
   have HP := Aside0.mk hput
   have HOK := Aside0.mk (And.intro hok5 hK5)
   clear hfin hput hok5 hK5 hF5 hF5' hy hf hxa hea hx' he' hlJ hk
   generalize x'.f0.f8 = l8 at *
   generalize y.f0.f2 = kd at *
   go_wp2
   go_end0
   refine ⟨rfl, ?_, ?_⟩
   ·rw [HP.out]
    exact ⟨_, _, _, _, HFin.out, HOK.out.1⟩
   ·exact HOK.out.2.setCell (p := ⟨gi, a * 17 + 8, none⟩) (.inl (hok gi (.inr (.inl rfl)))) _
  ·have b2 : (y.f0.f2 == 2) = false := beq_eq_false_iff_ne.2 hk
   rw [if_neg hk] at hput
   obtain ⟨q8, f8⟩ := hF5'.cI hy hf 8 (by omega)
   replace q8 : W5.cell? ⟨gi, id * 17 + 8, none⟩ = some (.int .i64 y.f0.f8) := q8
   have hfin := hF5'.setI' hy hf (j := 8) (x' := Item.linked y) (u := .int .i64 (wrap64 (y.f0.f8 + 1))) (by omega) rfl rfl
   have HFin := Aside0.mk hfin
   have HP := Aside0.mk hput
   have HOK := Aside0.mk (And.intro hok5 hK5)
   clear hfin hput hok5 hK5 hF5 hF5' hy hf hxa hea hx' he' hlJ hk
   generalize y.f0.f8 = l8 at *
   generalize y.f0.f2 = kd at *
   go_wp2
   go_end0
   refine ⟨rfl, ?_, ?_⟩
   ·rw [HP.out]
    exact ⟨_, _, _, _, HFin.out, HOK.out.1⟩
   ·exact HOK.out.2.setCell (p := ⟨gi, id * 17 + 8, none⟩) (.inl (hok gi (.inr (.inl rfl)))) _
end Go.Proofs.Ytlfldoghomnbkaa.QVfs
