import Derived.WalkKit
import Derived.ProofKit
import Derived.OpenShut
import Derived.ShutString
import Derived.ChangeOld
import Derived.Below
import Derived.SizedLaws
import Derived.Test.YtlfldoghomnbkaaSWords
import Derived.Deep.Slices
-- Texts of this seat, what the claim does not reach struck out by a program.
section
namespace Go.Proofs.YtlfldoghomnbkaaW.VRow
open Go.ChangeShapes Go.WideShapes Go.ChangeAt Go.RowKit
set_option linter.unusedVariables false
set_option linter.unusedSimpArgs false
inductive FK where
 | int (k : IntKind)
 | bool
 | str
def Fit : FK → Value → Prop
 | .int k, v => ∃ n, v = .int k n ∧ (Lit.int k n).wf = true
 | .bool, v => ∃ b, v = .bool b
 | .str, v => ∃ s, v = .string s ∧ s.size ≤ maxLen
def Fits : List FK → List Value → Prop
 | [], cs => cs = []
 | k :: ks, cs => ∃ v vs, cs = v :: vs ∧ Fit k v ∧ Fits ks vs
theorem Fits.append {ks ls : List FK} : ∀ {cs ds : List Value}, Fits ks cs → Fits ls ds → Fits (ks ++ ls) (cs ++ ds) := by
 induction ks with
 | nil => intro cs ds h h'; cases h; exact h'
 | cons k ks ih =>
  rintro cs ds ⟨v, vs, rfl, hv, hr⟩ h'
  exact ⟨v, vs ++ ds, rfl, hv, ih hr h'⟩
theorem Fits.length {ks : List FK} : ∀ {cs : List Value}, Fits ks cs → cs.length = ks.length := by
 induction ks with
 | nil => intro cs h; cases h; rfl
 | cons k ks ih => rintro cs ⟨v, vs, rfl, hv, hr⟩; simp [ih hr]
def Flat (P : Program) (t : TypeId) (ks : List FK) : Prop :=
 ∀ (H : Type) (enc : TypeId × Value → H) (w : World) (base : Nat) (spare : Nat → Bool) (held : Bool) (fuel : Nat) (cs : List Value) (x : DataW H × List MemPlace),
  DataW.trod enc P w base spare held fuel t cs = some x → Fits ks cs ∧ x.2 = []
theorem Flat.int {P : Program} {t : TypeId} {k : IntKind} (ht : P.underlying t = some (.int k)) : Flat P t [.int k] := by
 intro H enc w base spare held fuel cs x h
 obtain ⟨n, rfl, rfl, hw⟩ := DataW.trod_int ht h
 exact ⟨⟨_, [], rfl, ⟨n, rfl, hw⟩, rfl⟩, rfl⟩
theorem Flat.bool {P : Program} {t : TypeId} (ht : P.underlying t = some .bool) : Flat P t [.bool] := by
 intro H enc w base spare held fuel cs x h
 obtain ⟨b, rfl, rfl⟩ := DataW.trod_bool ht h
 exact ⟨⟨_, [], rfl, ⟨b, rfl⟩, rfl⟩, rfl⟩
theorem Flat.str {P : Program} {t : TypeId} (ht : P.underlying t = some .string) : Flat P t [.str] := by
 intro H enc w base spare held fuel cs x h
 obtain ⟨s, rfl, rfl, hs⟩ := DataW.trod_string ht h
 exact ⟨⟨_, [], rfl, ⟨s, rfl, hs⟩, rfl⟩, rfl⟩
theorem fits_pieces (kss : List (List FK)) : ∀ (cs : List Value), cs.length = (kss.map List.length).sum →
  (∀ i, i < kss.length → Fits (kss.getD i []) ((cs.drop ((kss.take i).map List.length).sum).take (kss.getD i []).length)) → Fits kss.flatten cs := by
 induction kss with
 | nil => intro cs hl _; simp at hl; subst hl; exact rfl
 | cons ks kss ih =>
  intro cs hl h
  have h0 := h 0 (by simp)
  simp at h0
  have hrest : Fits kss.flatten (cs.drop ks.length) := by
   refine ih (cs.drop ks.length) (by simp at hl ⊢; omega) ?_
   intro i hi
   have h1 := h (i + 1) (by simpa using hi)
   simp only [List.take_succ_cons, List.map_cons, List.sum_cons, List.getD_cons_succ] at h1
   rw [List.drop_drop]
   exact h1
  have := h0.append hrest
  rwa [List.take_append_drop] at this
theorem Flat.array {P : Program} {t e : TypeId} {n : Nat} {ks : List FK} (ht : P.underlying t = some (.array n e)) (he : Flat P e ks) (hc : P.cellsOf e = ks.length) (hct : P.cellsOf t = n * ks.length) : Flat P t (List.replicate n ks).flatten := by
 intro H enc w base spare held fuel cs x h
 obtain ⟨xs, m, rfl, rfl, hlen, hxs, hat⟩ := DataW.trod_array ht h
 have hi : ∀ i, i < n → ∃ y, xs[i]? = some y ∧ Fits ks ((cs.drop (i * ks.length)).take ks.length) ∧ y.2 = [] := by
  intro i hi
  have h1 := hat i hi
  rw [hc, List.getElem?_eq_getElem (by omega)] at h1
  obtain ⟨f1, f2⟩ := he H enc w base spare held m _ _ h1
  exact ⟨_, List.getElem?_eq_getElem (by omega), f1, f2⟩
 refine ⟨fits_pieces _ cs (by rw [hlen, hct]; simp) ?_, ?_⟩
 ·intro i hin
  simp at hin
  obtain ⟨y, _, f1, _⟩ := hi i hin
  have e1 : (List.replicate n ks).getD i [] = ks := by rw [List.getD_eq_getElem?_getD]; simp [hin]
  have e2 : ((List.take i (List.replicate n ks)).map List.length).sum = i * ks.length := by
   rw [List.take_replicate, Nat.min_eq_left (by omega)]; simp
  rw [e1, e2]
  exact f1
 ·rw [List.flatMap_eq_nil_iff]
  intro y hy
  obtain ⟨i, hi', rfl⟩ := List.mem_iff_getElem.1 hy
  obtain ⟨z, hz, _, f2⟩ := hi i (by omega)
  rw [List.getElem?_eq_getElem hi'] at hz
  cases hz
  exact f2
def FieldsFlat (P : Program) (fs : Array Field) (kss : List (List FK)) : Prop :=
 fs.size = kss.length ∧ ∀ i, i < kss.length → ∃ f, fs[i]? = some f ∧ f.offset = ((kss.take i).map List.length).sum ∧ P.cellsOf f.type = (kss.getD i []).length ∧ Flat P f.type (kss.getD i [])
theorem Flat.struct {P : Program} {t : TypeId} {fs : Array Field} {kss : List (List FK)} (ht : P.underlying t = some (.struct fs)) (hf : FieldsFlat P fs kss) (hct : P.cellsOf t = (kss.map List.length).sum) : Flat P t kss.flatten := by
 intro H enc w base spare held fuel cs x h
 obtain ⟨xs, m, rfl, rfl, hlen, hxs, hat⟩ := DataW.trod_struct ht h
 obtain ⟨hn, hf⟩ := hf
 have hi : ∀ i, i < kss.length → ∃ y, xs[i]? = some y ∧ Fits (kss.getD i []) ((cs.drop ((kss.take i).map List.length).sum).take (kss.getD i []).length) ∧ y.2 = [] := by
  intro i hi
  obtain ⟨f, f1, f2, f3, f4⟩ := hf i hi
  have h1 := hat i f f1
  rw [f2, f3, List.getElem?_eq_getElem (by omega)] at h1
  obtain ⟨g1, g2⟩ := f4 H enc w base spare held m _ _ h1
  exact ⟨_, List.getElem?_eq_getElem (by omega), g1, g2⟩
 refine ⟨fits_pieces _ cs (by rw [hlen, hct]) ?_, ?_⟩
 ·intro i hin
  obtain ⟨y, _, f1, _⟩ := hi i hin
  exact f1
 ·rw [List.flatMap_eq_nil_iff]
  intro y hy
  obtain ⟨i, hi', rfl⟩ := List.mem_iff_getElem.1 hy
  obtain ⟨z, hz, _, f2⟩ := hi i (by omega)
  rw [List.getElem?_eq_getElem hi'] at hz
  cases hz
  exact f2
theorem FieldsFlat.nil {P : Program} : FieldsFlat P #[] [] := ⟨rfl, fun i h => absurd h (by simp)⟩
theorem open_flat {P : Program} {H : Type} {enc : TypeId × Value → H} {w : World} {base : Nat} {spare : Nat → Bool} {held : Bool} {t : TypeId} {v : Value} {d : DataW H} {p : List MemPlace} {ks : List FK}
  (hv : ∃ cs, v = .agg cs) (hf : Flat P t ks) (h : DataW.Trod enc P w base spare held t v d p) : ∃ cs, v = .agg ⟨cs⟩ ∧ Fits ks cs ∧ p = [] := by
 obtain ⟨⟨cs⟩, rfl⟩ := hv
 obtain ⟨fuel, hx⟩ := h
 obtain ⟨h1, h2⟩ := hf H enc w base spare held fuel _ _ hx
 exact ⟨cs, rfl, h1, h2⟩
theorem stays_flat {P : Program} {H : Type} {enc : TypeId × Value → H} {t : TypeId} (hl : laidOutB P = true) (hr : P.readableRec t = true) (hrow : t < P.types.size) {W W' : World} {v : Value} {d : DataW H}
  (h : DataW.Trod enc P W 0 (fun _ => true) true t v d []) (hb : Below W.heap.size W W') : DataW.Trod enc P W' 0 (fun b => decide (b < W.heap.size)) true t v d [] :=
 Below.trod hl hr hrow h hb (fun _ hx => absurd hx (by simp))
end Go.Proofs.YtlfldoghomnbkaaW.VRow
end

section
namespace Go.Proofs.YtlfldoghomnbkaaW.VRow3
open Go.ChangeShapes Go.WideShapes Go.ChangeAt Go.RowKit Go.Proofs.YtlfldoghomnbkaaW.PrintWords
set_option linter.unusedVariables false
set_option linter.unusedSimpArgs false
def TellsQ (P : Program) (t : TypeId) {α : Type} (d : Kd α) (Q : α → Prop) : Prop :=
 ∀ (H : Type) (enc : TypeId × Value → H) (w : World) (base : Nat) (spare : Nat → Bool) (held : Bool) (fuel : Nat) (cs : List Value) (x : DataW H × List MemPlace),
  DataW.trod enc P w base spare held fuel t cs = some x → ∃ v : α, d.K w v cs ∧ Q v
theorem TellsQ.int {P : Program} {t : TypeId} {k : IntKind} (ht : P.underlying t = some (.int k)) : TellsQ P t (Kd.int k) (fun n => (Lit.int k n).wf = true) := by
 intro H enc w base spare held fuel cs x h
 obtain ⟨n, rfl, rfl, hw⟩ := DataW.trod_int ht h
 exact ⟨n, rfl, hw⟩
theorem TellsQ.bool {P : Program} {t : TypeId} (ht : P.underlying t = some .bool) : TellsQ P t Kd.bool (fun _ => True) := by
 intro H enc w base spare held fuel cs x h
 obtain ⟨b, rfl, rfl⟩ := DataW.trod_bool ht h
 exact ⟨b, rfl, trivial⟩
theorem TellsQ.str {P : Program} {t : TypeId} (ht : P.underlying t = some .string) : TellsQ P t Kd.string (fun s => s.size ≤ maxLen) := by
 intro H enc w base spare held fuel cs x h
 obtain ⟨s, rfl, rfl, hs⟩ := DataW.trod_string ht h
 exact ⟨s, rfl, hs⟩
theorem TellsQ.iso {P : Program} {t : TypeId} {α β : Type} {d : Kd α} {Q : α → Prop} (h : TellsQ P t d Q) (f : β → α) (g : α → β) (hfg : ∀ a, f (g a) = a) : TellsQ P t (Kd.iso d f) (fun b => Q (f b)) := by
 intro H enc w base spare held fuel cs x hx
 obtain ⟨v, hv, hq⟩ := h H enc w base spare held fuel cs x hx
 refine ⟨g v, ?_, ?_⟩
 ·show d.K w (f (g v)) cs
  rw [hfg]; exact hv
 ·show Q (f (g v))
  rw [hfg]; exact hq
theorem TellsQ.slice {P : Program} {t e : TypeId} {α : Type} {d : Kd α} {Q : α → Prop} (ht : P.underlying t = some (.slice e)) (he : TellsQ P e d Q) (hc : P.cellsOf e = d.sz) : TellsQ P t (Kd.slice e d) (fun l => ∀ x ∈ l, Q x) := by
 intro H enc w base spare held fuel cs x h
 rcases Go.Deep.open_slice ht h with ⟨rfl, _⟩ | ⟨a, len, cap, m, n, D, Pl, rfl, hb, hl, hm, hmm, _, hi⟩
 ·exact ⟨[], ⟨none, 0, rfl, Nat.le_refl _, Kd.C_nil d w⟩, fun _ h => by cases h⟩
 ·have hlm : len ≤ m := by rw [hmm]; split <;> omega
  have hv : ∀ i : Fin len, ∃ v : α, Q v ∧ ∃ cs' : List Value, d.K w v cs' ∧ ∀ j u, cs'[j]? = some u → w.cell? (a.add (i.val * d.sz + j)) = some u := by
   intro i
   obtain ⟨cs', h1, h2⟩ := hi i.val (by omega)
   obtain ⟨v, hv, hq⟩ := he H enc w base spare held n cs' _ h2
   rw [hc] at h1
   obtain ⟨_, hlen, hat⟩ := World.cells?_some h1
   refine ⟨v, hq, cs', hv, fun j u hj => ?_⟩
   have hjl : j < cs'.length := (List.getElem?_eq_some_iff.1 hj).1
   rw [← Go.Deep.add_add, hat j (by omega), hj]
  have hx : (List.ofFn fun i => Classical.choose (hv i)).length = len := by simp
  refine ⟨List.ofFn fun i => Classical.choose (hv i), ⟨some a, cap, by rw [hx], by omega, rfl, by rw [hx]; unfold maxLen at hm; omega, fun _ => ⟨a, rfl, fun j p hp => ?_⟩⟩, fun y hy => ?_⟩
  ·have hj : j < len := by
    have := (List.getElem?_eq_some_iff.1 hp).1
    omega
   have hp' : Classical.choose (hv ⟨j, hj⟩) = p := by
    rw [List.getElem?_ofFn] at hp
    simpa [hj] using hp
   obtain ⟨_, cs', hk, hcell⟩ := Classical.choose_spec (hv ⟨j, hj⟩)
   rw [hp'] at hk
   exact ⟨cs', d.K_len hk, hk, hcell⟩
  ·rw [List.mem_ofFn] at hy
   obtain ⟨i, rfl⟩ := hy
   exact (Classical.choose_spec (hv i)).1
def TellsFQ (P : Program) (fs : List Field) (off : Nat) {α : Type} (d : Kd α) (Q : α → Prop) : Prop :=
 ∀ (H : Type) (enc : TypeId × Value → H) (w : World) (base : Nat) (spare : Nat → Bool) (held : Bool) (n : Nat) (cs : List Value),
  (∀ f, f ∈ fs → ∃ y, DataW.trod enc P w base spare held n f.type ((cs.drop f.offset).take (P.cellsOf f.type)) = some y) → cs.length = off + d.sz → ∃ v : α, d.K w v (cs.drop off) ∧ Q v
theorem TellsFQ.one {P : Program} {f : Field} {off : Nat} {α : Type} {d : Kd α} {Q : α → Prop} (ho : f.offset = off) (hc : P.cellsOf f.type = d.sz) (h : TellsQ P f.type d Q) : TellsFQ P [f] off d Q := by
 intro H enc w base spare held n cs hf hl
 obtain ⟨y, hy⟩ := hf f (by simp)
 rw [ho, hc, List.take_of_length_le (by rw [List.length_drop]; omega)] at hy
 exact h H enc w base spare held n _ y hy
theorem TellsFQ.cons {P : Program} {f : Field} {fs : List Field} {off : Nat} {α β : Type} {a : Kd α} {b : Kd β} {Qa : α → Prop} {Qb : β → Prop} (ho : f.offset = off) (hc : P.cellsOf f.type = a.sz) (h : TellsQ P f.type a Qa) (hs : TellsFQ P fs (off + a.sz) b Qb) : TellsFQ P (f :: fs) off (Kd.pair a b) (fun p => Qa p.1 ∧ Qb p.2) := by
 intro H enc w base spare held n cs hf hl
 have hl' : cs.length = off + (a.sz + b.sz) := hl
 obtain ⟨y, hy⟩ := hf f (by simp)
 rw [ho, hc] at hy
 obtain ⟨v, hv, hqv⟩ := h H enc w base spare held n _ y hy
 obtain ⟨u, hu, hqu⟩ := hs H enc w base spare held n cs (fun g hg => hf g (by simp [hg])) (by omega)
 refine ⟨(v, u), ⟨(cs.drop off).take a.sz, cs.drop (off + a.sz), ?_, hv, hu⟩, hqv, hqu⟩
 rw [← List.drop_drop, List.take_append_drop]
theorem TellsQ.struct {P : Program} {t : TypeId} {fs : List Field} {α : Type} {d : Kd α} {Q : α → Prop} (ht : P.underlying t = some (.struct fs.toArray)) (hc : P.cellsOf t = d.sz) (h : TellsFQ P fs 0 d Q) : TellsQ P t d Q := by
 intro H enc w base spare held fuel cs x hx
 obtain ⟨xs, m, rfl, rfl, hlen, hxs, hat⟩ := DataW.trod_struct ht hx
 have := h H enc w base spare held m cs (fun f hf => by
  obtain ⟨i, hi, rfl⟩ := List.getElem_of_mem hf
  have h1 := hat i fs[i] (by simp [hi])
  have hxl : i < xs.length := by rw [hxs]; simpa using hi
  rw [List.getElem?_eq_getElem hxl] at h1
  exact ⟨_, h1⟩) (by rw [hlen, hc]; omega)
 simpa using this
theorem TellsQ.structA {P : Program} {t : TypeId} {fs : Array Field} {α : Type} {d : Kd α} {Q : α → Prop} (ht : P.underlying t = some (.struct fs)) (hc : P.cellsOf t = d.sz) (h : TellsFQ P fs.toList 0 d Q) : TellsQ P t d Q :=
 TellsQ.struct (fs := fs.toList) (by rw [ht]) hc h
theorem open_toldQ {P : Program} {H : Type} {enc : TypeId × Value → H} {w : World} {base : Nat} {spare : Nat → Bool} {held : Bool} {t e : TypeId} {α : Type} {d : Kd α} {Q : α → Prop} {A : Option Addr} {n c : Nat} {dd : DataW H} {p : List MemPlace}
  (hs : TellsQ P t (Kd.slice e d) (fun l => ∀ x ∈ l, Q x)) (h : DataW.Trod enc P w base spare held t (.slice A n c) dd p) : ∃ xs : List α, d.C w A xs.length xs ∧ n = xs.length ∧ xs.length ≤ c ∧ ∀ x ∈ xs, Q x := by
 obtain ⟨fuel, hf⟩ := h
 obtain ⟨xs, ⟨A', c', he, hle, hC⟩, hq⟩ := hs H enc w base spare held fuel _ _ hf
 simp [Value.cells] at he
 obtain ⟨rfl, rfl, rfl⟩ := he
 exact ⟨xs, hC, rfl, hle, hq⟩
end Go.Proofs.YtlfldoghomnbkaaW.VRow3
end
