import Derived.Test.YtlfldoghomnbkaaSQVfs0
import Derived.Test.YtlfldoghomnbkaaSWords
-- Texts of this seat, what the claim does not reach struck out by a program.
namespace Go.Proofs.Ytlfldoghomnbkaa.QVfs
open Go.RowKit Go.Proofs.YtlfldoghomnbkaaW.PrintWords Go.Proofs.YtlfldoghomnbkaaW.PrintLast Go.Proofs.YtlfldoghomnbkaaW.PrintMore
set_option linter.unusedVariables false
set_option linter.unusedSimpArgs false
abbrev Node := S36
abbrev Entry := S61
abbrev Item := S74
abbrev kItem := k74
abbrev TI : Nat := 74
abbrev TE : Nat := 61
abbrev TN : Nat := 36
abbrev TF : Nat := 69
abbrev TZ : Nat := 3
structure Fs where
 I : List Item
 D : List Int
 C : List Int
def encN (x : Node) : List Value := [.int .i64 x.f0, .int .i64 x.f1, .int .i64 x.f2, .int .i64 x.f3, .int .i64 x.f4, .int .i64 x.f5, .int .i64 x.f6, .int .i64 x.f7, .int .i64 x.f8, .int .i64 x.f9.f0, .int .i64 x.f9.f1, .int .i64 x.f9.f2, .string x.f10]
def encI (x : Item) (e : Value) : List Value := [.int .i64 x.f0.f0, .int .i64 x.f0.f1, .int .i64 x.f0.f2, .int .i64 x.f0.f3, .int .i64 x.f0.f4, .int .i64 x.f0.f5, .int .i64 x.f0.f6, .int .i64 x.f0.f7, .int .i64 x.f0.f8, .int .i64 x.f0.f9.f0, .int .i64 x.f0.f9.f1, .int .i64 x.f0.f9.f2, .string x.f0.f10, e, .int .i64 x.f2, .int .i64 x.f3, .bool x.f4]
def encE (l : List Entry) : List Value := l.flatMap fun x => [.string x.f0, .int .i64 x.f1]
theorem flat_length (n : Nat) : ∀ rs : List (List Value), (∀ r ∈ rs, r.length = n) → rs.flatten.length = rs.length * n := by
 intro rs
 induction rs with
 | nil => intro _; simp
 | cons r rs ih =>
  intro h
  rw [List.flatten_cons, List.length_append, ih (fun q hq => h q (List.mem_cons_of_mem _ hq)), h r List.mem_cons_self, List.length_cons, Nat.add_mul, Nat.one_mul]
  omega
theorem flat_get (n : Nat) : ∀ (rs : List (List Value)) (i j : Nat) (r : List Value), (∀ r ∈ rs, r.length = n) → rs[i]? = some r → j < n → rs.flatten[i * n + j]? = r[j]? := by
 intro rs
 induction rs with
 | nil => intro i j r _ h; simp at h
 | cons q rs ih =>
  intro i j r hl hr hj
  have hq := hl q List.mem_cons_self
  cases i with
  | zero =>
   obtain rfl : q = r := by simpa using hr
   rw [List.flatten_cons, Nat.zero_mul, Nat.zero_add, List.getElem?_append_left (by omega)]
  | succ i =>
   have e : (i + 1) * n + j - q.length = i * n + j := by rw [hq, Nat.add_mul, Nat.one_mul]; omega
   rw [List.flatten_cons, List.getElem?_append_right (by rw [hq, Nat.add_mul, Nat.one_mul]; omega), e]
   exact ih i j r (fun r hr => hl r (List.mem_cons_of_mem _ hr)) (by simpa using hr) hj
theorem flat_set (n : Nat) : ∀ (rs : List (List Value)) (i j : Nat) (r : List Value) (u : Value), (∀ r ∈ rs, r.length = n) → rs[i]? = some r → j < n → rs.flatten.set (i * n + j) u = (rs.set i (r.set j u)).flatten := by
 intro rs
 induction rs with
 | nil => intro i j r u _ h; simp at h
 | cons q rs ih =>
  intro i j r u hl hr hj
  have hq := hl q List.mem_cons_self
  cases i with
  | zero =>
   obtain rfl : q = r := by simpa using hr
   rw [List.flatten_cons, Nat.zero_mul, Nat.zero_add, List.set_append_left _ _ (by omega)]; rfl
  | succ i =>
   have e : (i + 1) * n + j - q.length = i * n + j := by rw [hq, Nat.add_mul, Nat.one_mul]; omega
   rw [List.flatten_cons, List.set_append_right _ _ (by rw [hq, Nat.add_mul, Nat.one_mul]; omega), e]
   rw [ih i j r u (fun r hr => hl r (List.mem_cons_of_mem _ hr)) (by simpa using hr) hj]; rfl
def rowsI (l : List Item) (es : List Value) : List Value := (List.zipWith encI l es).flatten
theorem zip_len (l : List Item) (es : List Value) : ∀ r ∈ List.zipWith encI l es, r.length = 17 := by
 intro r hr
 rw [List.zipWith_eq_zipWith_take_min] at hr
 obtain ⟨i, hi, rfl⟩ := List.getElem_of_mem hr
 rw [List.getElem_zipWith]; rfl
theorem rowsI_length (l : List Item) (es : List Value) (h : l.length = es.length) : (rowsI l es).length = l.length * 17 := by
 unfold rowsI
 rw [flat_length 17 _ (zip_len l es), List.length_zipWith, h, Nat.min_self]
theorem rowsI_snoc (l : List Item) (es : List Value) (x : Item) (e : Value) (h : l.length = es.length) : rowsI (l ++ [x]) (es ++ [e]) = rowsI l es ++ encI x e := by
 unfold rowsI
 rw [List.zipWith_append h]
 simp
theorem zip_at {l : List Item} {es : List Value} {i : Nat} {x : Item} {e : Value} (hx : l[i]? = some x) (he : es[i]? = some e) : (List.zipWith encI l es)[i]? = some (encI x e) := by
 rw [List.getElem?_zipWith, hx, he]
theorem rowsI_get (l : List Item) (es : List Value) (i j : Nat) (x : Item) (e : Value) (hx : l[i]? = some x) (he : es[i]? = some e) (hj : j < 17) : (rowsI l es)[i * 17 + j]? = (encI x e)[j]? :=
 flat_get 17 _ i j _ (zip_len l es) (zip_at hx he) hj
theorem rowsI_set (l : List Item) (es : List Value) (i j : Nat) (x x' : Item) (e e' u : Value) (hx : l[i]? = some x) (he : es[i]? = some e) (hs : encI x' e' = (encI x e).set j u) (hj : j < 17) : (rowsI l es).set (i * 17 + j) u = rowsI (l.set i x') (es.set i e') := by
 unfold rowsI
 rw [flat_set 17 _ i j _ u (zip_len l es) (zip_at hx he) hj, ← hs]
 congr 1
 apply List.ext_getElem?
 intro k
 rw [List.getElem?_zipWith, List.getElem?_set, List.getElem?_set, List.getElem?_set, List.length_zipWith, List.getElem?_zipWith]
 have hi := (List.getElem?_eq_some_iff.1 hx).1
 have hi' := (List.getElem?_eq_some_iff.1 he).1
 by_cases c : i = k
 ·subst c; simp [hi, hi']; omega
 ·simp [c]
theorem encE_length (l : List Entry) : (encE l).length = l.length * 2 := by
 induction l with
 | nil => rfl
 | cons x l ih => simp only [encE, List.flatMap_cons, List.length_append, List.length_cons, List.length_nil] at ih ⊢; omega
theorem encE_snoc (l : List Entry) (x : Entry) : encE (l ++ [x]) = encE l ++ [.string x.f0, .int .i64 x.f1] := by simp [encE]
theorem own_cell {w : World} {base g n cap size : Nat} {e : TypeId} {xs : List Value} (h : w.ownsRow base e size (.slice (some ⟨g, 0, none⟩) n cap) n xs) (k : Nat) (hk : k < xs.length) : w.cell? ⟨g, k, none⟩ = xs[k]? ∧ w.frozen? ⟨g, k, none⟩ = false := by
 rcases h.2 with ⟨h1, _⟩ | ⟨g', cap', cur, h1, _, hg, _, _, hs, ht⟩
 ·cases h1
 ·injection h1 with h1 _ h3
  injection h1 with h1
  injection h1 with h1
  subst h1
  have hl := h.1
  refine ⟨?_, blk_frozen hg k⟩
  rw [blk_cell hg k, ← ht, List.getElem?_take_of_lt (by omega), ← Array.getElem?_toList]
theorem own_setAt {w : World} {base g n cap size : Nat} {e : TypeId} {xs : List Value} (h : w.ownsRow base e size (.slice (some ⟨g, 0, none⟩) n cap) n xs) (k : Nat) (hk : k < xs.length) (u : Value) :
  (w.setCell ⟨g, k, none⟩ u).ownsRow base e size (.slice (some ⟨g, 0, none⟩) n cap) n (xs.set k u) := by
 refine ⟨by rw [List.length_set]; exact h.1, ?_⟩
 rcases h.2 with ⟨h1, _⟩ | ⟨g', cap', cur, h1, hb, hg, hn, hc, hs, ht⟩
 ·cases h1
 ·injection h1 with h1 h2 h3
  injection h1 with h1
  injection h1 with h1
  subst h1 h3
  refine .inr ⟨g, cap, cur.setIfInBounds k u, rfl, hb, ?_, hn, hc, by rw [Array.size_setIfInBounds]; exact hs, ?_⟩
  ·obtain ⟨hlt, hk'⟩ := Array.getElem?_eq_some_iff.1 hg
   show (w.heap.modify g _)[g]? = _
   rw [Array.getElem?_eq_getElem (by rw [Array.size_modify]; exact hlt), Array.getElem_modify_self, hk']
   rfl
  ·rw [Array.toList_setIfInBounds, ← ht]
   rw [List.take_set]
theorem setCell_at {w : World} {g : Nat} {cs : Array Value} {t : Nat} (h : w.heap[g]? = some (.cells cs t (0, 0))) (k : Nat) (u : Value) : (w.setCell ⟨g, k, none⟩ u).heap[g]? = some (.cells (cs.setIfInBounds k u) t (0, 0)) := by
 obtain ⟨hlt, hk'⟩ := Array.getElem?_eq_some_iff.1 h
 show (w.heap.modify g _)[g]? = _
 rw [Array.getElem?_eq_getElem (by rw [Array.size_modify]; exact hlt), Array.getElem_modify_self, hk']
 rfl
theorem setCell_far (w : World) (g k : Nat) (u : Value) (b : Nat) (h : b ≠ g) : (w.setCell ⟨g, k, none⟩ u).heap[b]? = w.heap[b]? := Below.heap_setCell w ⟨g, k, none⟩ u b h
def Ne2 (u v : Value) : Prop := ∀ k, u.ownBlock = some k → v.ownBlock ≠ some k
structure FsW (base g : Nat) (F : Fs) (w : World) (v1 v2 v3 : Value) (es : List Value) : Prop where
 blk : w.heap[g]? = some (.cells #[v1, v2, v3] TF (0, 0))
 low : base ≤ g
 len : F.I.length = es.length
 rI : w.ownsRow base TI 17 v1 F.I.length (rowsI F.I es)
 rE : ∀ (i : Nat) (x : Item) (e : Value), F.I[i]? = some x → es[i]? = some e → w.ownsRow base TE 2 e x.f1.length (encE x.f1)
 rD : w.ownsRow base TZ 1 v2 F.D.length (nums .i64 F.D)
 rC : w.ownsRow base TZ 1 v3 F.C.length (nums .i64 F.C)
 ne : Ne2 v2 v3
 neE : ∀ (i j : Nat) (e f : Value), es[i]? = some e → es[j]? = some f → i ≠ j → Ne2 e f
def Own (g : Nat) (v1 v2 v3 : Value) (es : List Value) (k : Nat) : Prop := k = g ∨ v1.ownBlock = some k ∨ v2.ownBlock = some k ∨ v3.ownBlock = some k ∨ ∃ (i : Nat) (e : Value), es[i]? = some e ∧ e.ownBlock = some k
def FsAt (base g : Nat) (ok : Nat → Prop) (F : Fs) (w : World) : Prop := ∃ v1 v2 v3 es, FsW base g F w v1 v2 v3 es ∧ ∀ k, Own g v1 v2 v3 es k → ok k
section
variable {base g : Nat} {F : Fs} {w w' : World} {v1 v2 v3 : Value} {es : List Value}
theorem typed_of {k t t' : Nat} {cs cs' : Array Value} {fr fr' : Nat × Nat} (h : w.heap[k]? = some (Obj.cells cs t fr)) (h' : w.heap[k]? = some (Obj.cells cs' t' fr')) : t = t' := by
 rw [h] at h'; injection h' with h'; injection h'
theorem FsW.move (h : FsW base g F w v1 v2 v3 es) (hm : ∀ k, Own g v1 v2 v3 es k → w'.heap[k]? = w.heap[k]?) : FsW base g F w' v1 v2 v3 es where
 blk := (hm g (.inl rfl)).trans h.blk
 low := h.low
 len := h.len
 rI := own_move h.rI fun k hk => hm k (.inr (.inl hk))
 rE := fun i x e hx he => own_move (h.rE i x e hx he) fun k hk => hm k (.inr (.inr (.inr (.inr ⟨i, e, he, hk⟩))))
 rD := own_move h.rD fun k hk => hm k (.inr (.inr (.inl hk)))
 rC := own_move h.rC fun k hk => hm k (.inr (.inr (.inr (.inl hk))))
 ne := h.ne
 neE := h.neE
theorem FsW.lt (h : FsW base g F w v1 v2 v3 es) (k : Nat) (hk : Own g v1 v2 v3 es k) : k < w.heap.size := by
 rcases hk with rfl | hk | hk | hk | ⟨i, e, he, hk⟩
 ·exact blk_lt h.blk
 ·exact own_lt h.rI k hk
 ·exact own_lt h.rD k hk
 ·exact own_lt h.rC k hk
 ·have hi : i < F.I.length := by rw [h.len]; exact (List.getElem?_eq_some_iff.1 he).1
  exact own_lt (h.rE i _ e (List.getElem?_eq_getElem hi) he) k hk
theorem FsW.below (h : FsW base g F w v1 v2 v3 es) (hb : Below w.heap.size w w') : FsW base g F w' v1 v2 v3 es := h.move fun k hk => hb.block k (h.lt k hk)
theorem FsW.hi (h : FsW base g F w v1 v2 v3 es) : base ≤ w.heap.size := by have := h.low; have := blk_lt h.blk; omega
theorem FsW.g1 (h : FsW base g F w v1 v2 v3 es) : v1.ownBlock ≠ some g := fun hk => by
 obtain ⟨cs, hc⟩ := own_typed h.rI g hk
 exact absurd (typed_of hc h.blk) (by decide)
theorem FsW.g2 (h : FsW base g F w v1 v2 v3 es) : v2.ownBlock ≠ some g := fun hk => by
 obtain ⟨cs, hc⟩ := own_typed h.rD g hk
 exact absurd (typed_of hc h.blk) (by decide)
theorem FsW.g3 (h : FsW base g F w v1 v2 v3 es) : v3.ownBlock ≠ some g := fun hk => by
 obtain ⟨cs, hc⟩ := own_typed h.rC g hk
 exact absurd (typed_of hc h.blk) (by decide)
theorem FsW.item (h : FsW base g F w v1 v2 v3 es) {i : Nat} {e : Value} (he : es[i]? = some e) : ∃ x, F.I[i]? = some x ∧ w.ownsRow base TE 2 e x.f1.length (encE x.f1) := by
 have hi : i < F.I.length := by rw [h.len]; exact (List.getElem?_eq_some_iff.1 he).1
 exact ⟨_, List.getElem?_eq_getElem hi, h.rE i _ e (List.getElem?_eq_getElem hi) he⟩
theorem FsW.gE (h : FsW base g F w v1 v2 v3 es) {i : Nat} {e : Value} (he : es[i]? = some e) : e.ownBlock ≠ some g := fun hk => by
 obtain ⟨x, _, ho⟩ := h.item he
 obtain ⟨cs, hc⟩ := own_typed ho g hk
 exact absurd (typed_of hc h.blk) (by decide)
theorem FsW.n12 (h : FsW base g F w v1 v2 v3 es) : Ne2 v1 v2 := fun k h1 h2 => by
 obtain ⟨cs, hc⟩ := own_typed h.rI k h1
 obtain ⟨cs', hc'⟩ := own_typed h.rD k h2
 exact absurd (typed_of hc hc') (by decide)
theorem FsW.n13 (h : FsW base g F w v1 v2 v3 es) : Ne2 v1 v3 := fun k h1 h2 => by
 obtain ⟨cs, hc⟩ := own_typed h.rI k h1
 obtain ⟨cs', hc'⟩ := own_typed h.rC k h2
 exact absurd (typed_of hc hc') (by decide)
theorem FsW.n1E (h : FsW base g F w v1 v2 v3 es) {i : Nat} {e : Value} (he : es[i]? = some e) : Ne2 v1 e := fun k h1 h2 => by
 obtain ⟨x, _, ho⟩ := h.item he
 obtain ⟨cs, hc⟩ := own_typed h.rI k h1
 obtain ⟨cs', hc'⟩ := own_typed ho k h2
 exact absurd (typed_of hc hc') (by decide)
theorem FsW.n2E (h : FsW base g F w v1 v2 v3 es) {i : Nat} {e : Value} (he : es[i]? = some e) : Ne2 v2 e := fun k h1 h2 => by
 obtain ⟨x, _, ho⟩ := h.item he
 obtain ⟨cs, hc⟩ := own_typed h.rD k h1
 obtain ⟨cs', hc'⟩ := own_typed ho k h2
 exact absurd (typed_of hc hc') (by decide)
theorem FsW.n3E (h : FsW base g F w v1 v2 v3 es) {i : Nat} {e : Value} (he : es[i]? = some e) : Ne2 v3 e := fun k h1 h2 => by
 obtain ⟨x, _, ho⟩ := h.item he
 obtain ⟨cs, hc⟩ := own_typed h.rC k h1
 obtain ⟨cs', hc'⟩ := own_typed ho k h2
 exact absurd (typed_of hc hc') (by decide)
theorem FsW.setC {gc cap d : Nat} (h : FsW base g F w v1 v2 (.slice (some ⟨gc, 0, none⟩) F.C.length cap) es) (hd : d < F.C.length) (x : Int) :
  FsW base g ⟨F.I, F.D, F.C.set d x⟩ (w.setCell ⟨gc, d, none⟩ (.int .i64 x)) v1 v2 (.slice (some ⟨gc, 0, none⟩) F.C.length cap) es := by
 have hne : gc ≠ g := fun e => h.g3 (by rw [e]; rfl)
 have far : ∀ k, k ≠ gc → (w.setCell ⟨gc, d, none⟩ (.int .i64 x)).heap[k]? = w.heap[k]? := fun k hk => setCell_far w gc d _ k hk
 exact {
  blk := (far g (fun e => hne e.symm)).trans h.blk
  low := h.low
  len := h.len
  rI := own_move h.rI fun k hk => far k fun e => h.n13 k hk (by rw [e]; rfl)
  rE := fun i x e hx he => own_move (h.rE i x e hx he) fun k hk => far k fun e' => h.n3E he gc rfl (e' ▸ hk)
  rD := own_move h.rD fun k hk => far k fun e => h.ne k hk (by rw [e]; rfl)
  rC := by
   have := own_setAt h.rC d (by rw [nums, List.length_map]; exact hd) (.int .i64 x)
   rw [show (nums .i64 F.C).set d (.int .i64 x) = nums .i64 (F.C.set d x) from by unfold nums; rw [List.map_set]] at this
   show World.ownsRow _ base TZ 1 _ (F.C.set d x).length _
   rw [List.length_set]
   exact this
  ne := h.ne
  neE := h.neE }
theorem FsW.setI {gi cap i j : Nat} {x x' : Item} {e e' u : Value} (h : FsW base g F w (.slice (some ⟨gi, 0, none⟩) F.I.length cap) v2 v3 es) (hx : F.I[i]? = some x) (he : es[i]? = some e) (hj : j < 17) (hs : encI x' e' = (encI x e).set j u)
  (hr : w.ownsRow base TE 2 e' x'.f1.length (encE x'.f1)) (hgi : e'.ownBlock ≠ some gi) (hne : ∀ (k : Nat) (f : Value), es[k]? = some f → k ≠ i → Ne2 e' f) :
  FsW base g ⟨F.I.set i x', F.D, F.C⟩ (w.setCell ⟨gi, i * 17 + j, none⟩ u) (.slice (some ⟨gi, 0, none⟩) F.I.length cap) v2 v3 (es.set i e') := by
 have hgg : gi ≠ g := fun e => h.g1 (by rw [e]; rfl)
 have far : ∀ k, k ≠ gi → (w.setCell ⟨gi, i * 17 + j, none⟩ u).heap[k]? = w.heap[k]? := fun k hk => setCell_far w gi _ _ k hk
 have hi := (List.getElem?_eq_some_iff.1 hx).1
 exact {
  blk := (far g (fun e => hgg e.symm)).trans h.blk
  low := h.low
  len := by show (F.I.set i x').length = (es.set i e').length; rw [List.length_set, List.length_set]; exact h.len
  rI := by
   have hl := rowsI_length F.I es h.len
   have := own_setAt h.rI (i * 17 + j) (by rw [hl]; omega) u
   rw [rowsI_set F.I es i j x x' e e' u hx he hs hj] at this
   show World.ownsRow _ base TI 17 _ (F.I.set i x').length _
   rw [List.length_set]
   exact this
  rE := fun k y f hy hf => by
   have hy' : (F.I.set i x')[k]? = some y := hy
   rw [List.getElem?_set] at hy' hf
   by_cases c : i = k
   ·subst c
    rw [if_pos rfl, if_pos hi] at hy'
    rw [if_pos rfl, if_pos (by rw [← h.len]; exact hi)] at hf
    obtain rfl := Option.some.inj hy'
    obtain rfl := Option.some.inj hf
    exact own_move hr fun k hk => far k fun e => hgi (e ▸ hk)
   ·rw [if_neg c] at hy' hf
    exact own_move (h.rE k y f hy' hf) fun q hq => far q fun e => h.n1E hf gi rfl (e ▸ hq)
  rD := own_move h.rD fun k hk => far k fun e => h.n12 gi rfl (e ▸ hk)
  rC := own_move h.rC fun k hk => far k fun e => h.n13 gi rfl (e ▸ hk)
  ne := h.ne
  neE := fun a b p q hp hq hab => by
   rw [List.getElem?_set] at hp hq
   by_cases ca : i = a
   ·subst ca
    rw [if_pos rfl, if_pos (by rw [← h.len]; exact hi)] at hp
    obtain rfl := Option.some.inj hp
    rw [if_neg hab] at hq
    exact hne b q hq (fun e => hab e.symm)
   ·rw [if_neg ca] at hp
    by_cases cb : i = b
    ·subst cb
     rw [if_pos rfl, if_pos (by rw [← h.len]; exact hi)] at hq
     obtain rfl := Option.some.inj hq
     exact fun k h1 h2 => hne a p hp (fun e => ca e.symm) k h2 h1
    ·rw [if_neg cb] at hq
     exact h.neE a b p q hp hq hab }
theorem FsW.setI' {gi cap i j : Nat} {x x' : Item} {e u : Value} (h : FsW base g F w (.slice (some ⟨gi, 0, none⟩) F.I.length cap) v2 v3 es) (hx : F.I[i]? = some x) (he : es[i]? = some e) (hj : j < 17) (hs : encI x' e = (encI x e).set j u) (h1 : x'.f1 = x.f1) :
  FsW base g ⟨F.I.set i x', F.D, F.C⟩ (w.setCell ⟨gi, i * 17 + j, none⟩ u) (.slice (some ⟨gi, 0, none⟩) F.I.length cap) v2 v3 es := by
 have := h.setI hx he hj hs (by rw [h1]; exact h.rE i x e hx he) (h.n1E he gi rfl ·) (fun k f hf hk => h.neE i k e f he hf (fun e => hk e.symm))
 have hset : es.set i e = es := by
  apply List.ext_getElem?
  intro k
  rw [List.getElem?_set]
  by_cases c : i = k
  ·subst c; rw [if_pos rfl, if_pos (List.getElem?_eq_some_iff.1 he).1, he]
  ·rw [if_neg c]
 rw [hset] at this
 exact this
theorem FsW.appI {w1 : World} {g' cap : Nat} {x : Item} (h : FsW base g F w v1 v2 v3 es) (ho : w1.ownsRow base TI 17 (.slice (some ⟨g', 0, none⟩) (F.I.length + 1) cap) (F.I.length + 1) (rowsI F.I es ++ encI x (.slice none 0 0)))
  (hg : w.grownBy w1 v1.ownBlock) (hat : v1.ownBlock = some g' ∨ w.heap.size ≤ g') (hx : x.f1 = []) :
  FsW base g ⟨F.I ++ [x], F.D, F.C⟩ (w1.setCell ⟨g, 0, none⟩ (.slice (some ⟨g', 0, none⟩) (F.I.length + 1) cap)) (.slice (some ⟨g', 0, none⟩) (F.I.length + 1) cap) v2 v3 (es ++ [.slice none 0 0]) := by
 have hlt := blk_lt h.blk
 have hgg : g' ≠ g := fun e => hat.elim (fun h' => h.g1 (e ▸ h')) (fun h' => by omega)
 have far : ∀ k, k ≠ g → (w1.setCell ⟨g, 0, none⟩ (.slice (some ⟨g', 0, none⟩) (F.I.length + 1) cap)).heap[k]? = w1.heap[k]? := fun k hk => setCell_far w1 g 0 _ k hk
 have old : ∀ k, k < w.heap.size → v1.ownBlock ≠ some k → k ≠ g → (w1.setCell ⟨g, 0, none⟩ (.slice (some ⟨g', 0, none⟩) (F.I.length + 1) cap)).heap[k]? = w.heap[k]? := fun k h1 h2 h3 => (far k h3).trans (hg.block k h1 (fun e => h2 e.symm))
 have hb1 : w1.heap[g]? = some (.cells #[v1, v2, v3] TF (0, 0)) := (hg.block g hlt (fun e => h.g1 e.symm)).trans h.blk
 exact {
  blk := setCell_at hb1 0 _
  low := h.low
  len := by simp [h.len]
  rI := by
   rw [rowsI_snoc F.I es x _ h.len]
   have := own_move ho (fun k hk => far k (by
    have : g' = k := by simpa [Value.ownBlock] using hk
    omega))
   show World.ownsRow _ base TI 17 _ (F.I ++ [x]).length _
   rw [List.length_append]
   exact this
  rE := fun i y f hy hf => by
   have hy' : (F.I ++ [x])[i]? = some y := hy
   rcases Nat.lt_or_ge i F.I.length with hi | hi
   ·rw [List.getElem?_append_left hi] at hy'
    rw [List.getElem?_append_left (by rw [← h.len]; exact hi)] at hf
    have hr := h.rE i y f hy' hf
    exact own_move hr fun k hk => old k (own_lt hr k hk) (fun e => h.n1E hf k e hk) (fun e => h.gE hf (e ▸ hk))
   ·rw [List.getElem?_append_right hi] at hy'
    rw [List.getElem?_append_right (by rw [← h.len]; exact hi)] at hf
    have h0 : i - F.I.length = 0 := by
     have := (List.getElem?_eq_some_iff.1 hy').1
     simp at this; omega
    have h0' : i - es.length = 0 := by rw [← h.len]; exact h0
    rw [h0] at hy'
    rw [h0'] at hf
    obtain rfl : x = y := by simpa using hy'
    obtain rfl : Value.slice none 0 0 = f := by simpa using hf
    rw [hx]
    exact own_nil _ _ _ _
  rD := own_move h.rD fun k hk => old k (own_lt h.rD k hk) (fun e => h.n12 k e hk) (fun e => h.g2 (e ▸ hk))
  rC := own_move h.rC fun k hk => old k (own_lt h.rC k hk) (fun e => h.n13 k e hk) (fun e => h.g3 (e ▸ hk))
  ne := h.ne
  neE := fun a b p q hp hq hab => by
   have nl : ∀ (f : Value) (i : Nat), (es ++ [Value.slice none 0 0])[i]? = some f → es.length ≤ i → f = .slice none 0 0 := by
    intro f i hf hi
    rw [List.getElem?_append_right hi] at hf
    have h0' : i - es.length = 0 := by
     have := (List.getElem?_eq_some_iff.1 hf).1
     simp at this; omega
    rw [h0'] at hf
    simpa using hf.symm
   rcases Nat.lt_or_ge a es.length with ha | ha
   ·rcases Nat.lt_or_ge b es.length with hb | hb
    ·rw [List.getElem?_append_left ha] at hp
     rw [List.getElem?_append_left hb] at hq
     exact h.neE a b p q hp hq hab
    ·rw [nl q b hq hb]; exact fun k _ h2 => by simp [Value.ownBlock] at h2
   ·rw [nl p a hp ha]; exact fun k h2 => by simp [Value.ownBlock] at h2 }
theorem FsW.appD {w1 : World} {g' cap : Nat} {x : Int} (h : FsW base g F w v1 v2 v3 es) (ho : w1.ownsRow base TZ 1 (.slice (some ⟨g', 0, none⟩) (F.D.length + 1) cap) (F.D.length + 1) (nums .i64 F.D ++ [.int .i64 x]))
  (hg : w.grownBy w1 v2.ownBlock) (hat : v2.ownBlock = some g' ∨ w.heap.size ≤ g') :
  FsW base g ⟨F.I, F.D ++ [x], F.C⟩ (w1.setCell ⟨g, 1, none⟩ (.slice (some ⟨g', 0, none⟩) (F.D.length + 1) cap)) v1 (.slice (some ⟨g', 0, none⟩) (F.D.length + 1) cap) v3 es := by
 have hlt := blk_lt h.blk
 have hgg : g' ≠ g := fun e => hat.elim (fun h' => h.g2 (e ▸ h')) (fun h' => by omega)
 have far : ∀ k, k ≠ g → (w1.setCell ⟨g, 1, none⟩ (.slice (some ⟨g', 0, none⟩) (F.D.length + 1) cap)).heap[k]? = w1.heap[k]? := fun k hk => setCell_far w1 g 1 _ k hk
 have old : ∀ k, k < w.heap.size → v2.ownBlock ≠ some k → k ≠ g → (w1.setCell ⟨g, 1, none⟩ (.slice (some ⟨g', 0, none⟩) (F.D.length + 1) cap)).heap[k]? = w.heap[k]? := fun k h1 h2 h3 => (far k h3).trans (hg.block k h1 (fun e => h2 e.symm))
 have hb1 : w1.heap[g]? = some (.cells #[v1, v2, v3] TF (0, 0)) := (hg.block g hlt (fun e => h.g2 e.symm)).trans h.blk
 exact {
  blk := setCell_at hb1 1 _
  low := h.low
  len := h.len
  rI := own_move h.rI fun k hk => old k (own_lt h.rI k hk) (fun e => h.n12 k hk e) (fun e => h.g1 (e ▸ hk))
  rE := fun i y f hy hf => own_move (h.rE i y f hy hf) fun k hk => old k (own_lt (h.rE i y f hy hf) k hk) (fun e => h.n2E hf k e hk) (fun e => h.gE hf (e ▸ hk))
  rD := by
   have := own_move ho (fun k hk => far k (by
    have : g' = k := by simpa [Value.ownBlock] using hk
    omega))
   show World.ownsRow _ base TZ 1 _ (F.D ++ [x]).length (nums .i64 (F.D ++ [x]))
   rw [List.length_append, show nums .i64 (F.D ++ [x]) = nums .i64 F.D ++ [.int .i64 x] from by simp [nums]]
   exact this
  rC := own_move h.rC fun k hk => old k (own_lt h.rC k hk) (fun e => h.ne k e hk) (fun e => h.g3 (e ▸ hk))
  ne := fun k h1 h2 => by
   have e : g' = k := by simpa [Value.ownBlock] using h1
   subst e
   rcases hat with h' | h'
   ·exact h.ne g' h' h2
   ·have := own_lt h.rC g' h2; omega
  neE := h.neE }
theorem FsW.appC {w1 : World} {g' cap : Nat} {x : Int} (h : FsW base g F w v1 v2 v3 es) (ho : w1.ownsRow base TZ 1 (.slice (some ⟨g', 0, none⟩) (F.C.length + 1) cap) (F.C.length + 1) (nums .i64 F.C ++ [.int .i64 x]))
  (hg : w.grownBy w1 v3.ownBlock) (hat : v3.ownBlock = some g' ∨ w.heap.size ≤ g') :
  FsW base g ⟨F.I, F.D, F.C ++ [x]⟩ (w1.setCell ⟨g, 2, none⟩ (.slice (some ⟨g', 0, none⟩) (F.C.length + 1) cap)) v1 v2 (.slice (some ⟨g', 0, none⟩) (F.C.length + 1) cap) es := by
 have hlt := blk_lt h.blk
 have hgg : g' ≠ g := fun e => hat.elim (fun h' => h.g3 (e ▸ h')) (fun h' => by omega)
 have far : ∀ k, k ≠ g → (w1.setCell ⟨g, 2, none⟩ (.slice (some ⟨g', 0, none⟩) (F.C.length + 1) cap)).heap[k]? = w1.heap[k]? := fun k hk => setCell_far w1 g 2 _ k hk
 have old : ∀ k, k < w.heap.size → v3.ownBlock ≠ some k → k ≠ g → (w1.setCell ⟨g, 2, none⟩ (.slice (some ⟨g', 0, none⟩) (F.C.length + 1) cap)).heap[k]? = w.heap[k]? := fun k h1 h2 h3 => (far k h3).trans (hg.block k h1 (fun e => h2 e.symm))
 have hb1 : w1.heap[g]? = some (.cells #[v1, v2, v3] TF (0, 0)) := (hg.block g hlt (fun e => h.g3 e.symm)).trans h.blk
 exact {
  blk := setCell_at hb1 2 _
  low := h.low
  len := h.len
  rI := own_move h.rI fun k hk => old k (own_lt h.rI k hk) (fun e => h.n13 k hk e) (fun e => h.g1 (e ▸ hk))
  rE := fun i y f hy hf => own_move (h.rE i y f hy hf) fun k hk => old k (own_lt (h.rE i y f hy hf) k hk) (fun e => h.n3E hf k e hk) (fun e => h.gE hf (e ▸ hk))
  rD := own_move h.rD fun k hk => old k (own_lt h.rD k hk) (fun e => h.ne k hk e) (fun e => h.g2 (e ▸ hk))
  rC := by
   have := own_move ho (fun k hk => far k (by
    have : g' = k := by simpa [Value.ownBlock] using hk
    omega))
   show World.ownsRow _ base TZ 1 _ (F.C ++ [x]).length (nums .i64 (F.C ++ [x]))
   rw [List.length_append, show nums .i64 (F.C ++ [x]) = nums .i64 F.C ++ [.int .i64 x] from by simp [nums]]
   exact this
  ne := fun k h1 h2 => by
   have e : g' = k := by simpa [Value.ownBlock] using h2
   subst e
   rcases hat with h' | h'
   ·exact h.ne g' h1 h'
   ·have := own_lt h.rD g' h1; omega
  neE := h.neE }
theorem FsW.appE {w1 : World} {gi capi g' cap i : Nat} {x : Item} {e : Value} {y : Entry} (h : FsW base g F w (.slice (some ⟨gi, 0, none⟩) F.I.length capi) v2 v3 es) (hx : F.I[i]? = some x) (he : es[i]? = some e)
  (ho : w1.ownsRow base TE 2 (.slice (some ⟨g', 0, none⟩) (x.f1.length + 1) cap) (x.f1.length + 1) (encE x.f1 ++ [.string y.f0, .int .i64 y.f1]))
  (hg : w.grownBy w1 e.ownBlock) (hat : e.ownBlock = some g' ∨ w.heap.size ≤ g') :
  FsW base g ⟨F.I.set i ⟨x.f0, x.f1 ++ [y], x.f2, x.f3, x.f4⟩, F.D, F.C⟩ (w1.setCell ⟨gi, i * 17 + 13, none⟩ (.slice (some ⟨g', 0, none⟩) (x.f1.length + 1) cap)) (.slice (some ⟨gi, 0, none⟩) F.I.length capi) v2 v3 (es.set i (.slice (some ⟨g', 0, none⟩) (x.f1.length + 1) cap)) := by
 have hlt := blk_lt h.blk
 have old : ∀ k, k < w.heap.size → e.ownBlock ≠ some k → w1.heap[k]? = w.heap[k]? := fun k h1 h2 => hg.block k h1 (fun e => h2 e.symm)
 have hi := (List.getElem?_eq_some_iff.1 hx).1
 have hgi : gi < w.heap.size := own_lt h.rI gi rfl
 have hg1 : g' ≠ gi := fun c => hat.elim (fun h' => h.n1E he gi rfl (c ▸ h')) (fun h' => by omega)
 have far : ∀ k, k ≠ gi → (w1.setCell ⟨gi, i * 17 + 13, none⟩ (.slice (some ⟨g', 0, none⟩) (x.f1.length + 1) cap)).heap[k]? = w1.heap[k]? := fun k hk => setCell_far w1 gi _ _ k hk
 have nE : ∀ (k : Nat) (f : Value), es[k]? = some f → k ≠ i → ∀ q, f.ownBlock = some q → q ≠ g' ∧ e.ownBlock ≠ some q := fun k f hf hk q hq => by
  obtain ⟨_, _, hr⟩ := h.item hf
  have hl := own_lt hr q hq
  have h1 : e.ownBlock ≠ some q := fun c => h.neE i k e f he hf (fun e => hk e.symm) q c hq
  exact ⟨fun c => hat.elim (fun h' => h1 (c ▸ h')) (fun h' => by omega), h1⟩
 exact {
  blk := ((far g (fun c => h.g1 (by rw [c]; rfl))).trans (old g hlt (h.gE he))).trans h.blk
  low := h.low
  len := by simp [h.len]
  rI := by
   have hl := rowsI_length F.I es h.len
   have h1 : w1.ownsRow base TI 17 (.slice (some ⟨gi, 0, none⟩) F.I.length capi) F.I.length (rowsI F.I es) := own_move h.rI fun k hk => by
    have : gi = k := by simpa [Value.ownBlock] using hk
    subst this
    exact old gi hgi fun c => h.n1E he gi rfl c
   have := own_setAt h1 (i * 17 + 13) (by rw [hl]; omega) (.slice (some ⟨g', 0, none⟩) (x.f1.length + 1) cap)
   rw [rowsI_set F.I es i 13 x ⟨x.f0, x.f1 ++ [y], x.f2, x.f3, x.f4⟩ e (.slice (some ⟨g', 0, none⟩) (x.f1.length + 1) cap) _ hx he rfl (by omega)] at this
   show World.ownsRow _ base TI 17 _ (F.I.set i _).length _
   rw [List.length_set]
   exact this
  rE := fun k z f hz hf => by
   have hz' : (F.I.set i ⟨x.f0, x.f1 ++ [y], x.f2, x.f3, x.f4⟩)[k]? = some z := hz
   rw [List.getElem?_set] at hz' hf
   by_cases c : i = k
   ·subst c
    rw [if_pos rfl, if_pos hi] at hz'
    rw [if_pos rfl, if_pos (by rw [← h.len]; exact hi)] at hf
    obtain rfl := Option.some.inj hz'
    obtain rfl := Option.some.inj hf
    show World.ownsRow _ base TE 2 _ (x.f1 ++ [y]).length (encE (x.f1 ++ [y]))
    rw [List.length_append, encE_snoc]
    exact own_move ho fun q hq => far q (by
     have : g' = q := by simpa [Value.ownBlock] using hq
     omega)
   ·rw [if_neg c] at hz' hf
    have hr := h.rE k z f hz' hf
    exact own_move hr fun q hq => (far q (fun c => h.n1E hf gi rfl (c ▸ hq))).trans (old q (own_lt hr q hq) (nE k f hf (fun e => c e.symm) q hq).2)
  rD := own_move h.rD fun k hk => (far k (fun c => h.n12 gi rfl (c ▸ hk))).trans (old k (own_lt h.rD k hk) (fun c => h.n2E he k hk c))
  rC := own_move h.rC fun k hk => (far k (fun c => h.n13 gi rfl (c ▸ hk))).trans (old k (own_lt h.rC k hk) (fun c => h.n3E he k hk c))
  ne := h.ne
  neE := fun a b p q hp hq hab => by
   rw [List.getElem?_set] at hp hq
   by_cases ca : i = a
   ·subst ca
    rw [if_pos rfl, if_pos (by rw [← h.len]; exact hi)] at hp
    obtain rfl := Option.some.inj hp
    rw [if_neg hab] at hq
    intro k h1 h2
    have : g' = k := by simpa [Value.ownBlock] using h1
    exact (nE b q hq (fun e => hab e.symm) k h2).1 this.symm
   ·rw [if_neg ca] at hp
    by_cases cb : i = b
    ·subst cb
     rw [if_pos rfl, if_pos (by rw [← h.len]; exact hi)] at hq
     obtain rfl := Option.some.inj hq
     intro k h1 h2
     have : g' = k := by simpa [Value.ownBlock] using h2
     exact (nE a p hp (fun e => ca e.symm) k h1).1 this.symm
    ·rw [if_neg cb] at hq
     exact h.neE a b p q hp hq hab }
end
end Go.Proofs.Ytlfldoghomnbkaa.QVfs
