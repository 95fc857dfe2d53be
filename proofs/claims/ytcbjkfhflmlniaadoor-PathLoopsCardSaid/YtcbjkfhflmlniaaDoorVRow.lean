/- Arguments that are structs and arrays of numbers, bools and strings, opened to their cells, whatever the number of fields. -/
import Derived.WalkKit
import Derived.ProofKit
import Derived.OpenShut
import Derived.ShutString
import Derived.ChangeOld
import Derived.Below
import Derived.SizedLaws
namespace Go.Proofs.YtcbjkfhflmlniaaDoorW.VRow
open Go.ChangeShapes Go.WideShapes Go.ChangeAt Go.RowKit
set_option linter.unusedVariables false
set_option linter.unusedSimpArgs false

inductive FK where
  | int (k : IntKind)
  | bool
  | str
def Fit : FK → Value → Prop
  | .int k, v => ∃ n, v = .int k n ∧ (Lit.int k n).wf = true
  | .bool, v => ∃ b, v = .bool b
  | .str, v => ∃ s, v = .string s ∧ s.size ≤ maxLen
def Fits : List FK → List Value → Prop
  | [], cs => cs = []
  | k :: ks, cs => ∃ v vs, cs = v :: vs ∧ Fit k v ∧ Fits ks vs
theorem Fits.append {ks ls : List FK} : ∀ {cs ds : List Value}, Fits ks cs → Fits ls ds → Fits (ks ++ ls) (cs ++ ds) := by
  induction ks with
  | nil => intro cs ds h h'; cases h; exact h'
  | cons k ks ih =>
    rintro cs ds ⟨v, vs, rfl, hv, hr⟩ h'
    exact ⟨v, vs ++ ds, rfl, hv, ih hr h'⟩
theorem Fits.length {ks : List FK} : ∀ {cs : List Value}, Fits ks cs → cs.length = ks.length := by
  induction ks with
  | nil => intro cs h; cases h; rfl
  | cons k ks ih => rintro cs ⟨v, vs, rfl, hv, hr⟩; simp [ih hr]
/-- Whatever reads as a value of type t has cells of these kinds, and leads nowhere. -/
def Flat (P : Program) (t : TypeId) (ks : List FK) : Prop :=
  ∀ (H : Type) (enc : TypeId × Value → H) (w : World) (base : Nat) (spare : Nat → Bool) (held : Bool) (fuel : Nat) (cs : List Value) (x : DataW H × List MemPlace),
    DataW.trod enc P w base spare held fuel t cs = some x → Fits ks cs ∧ x.2 = []
theorem Flat.int {P : Program} {t : TypeId} {k : IntKind} (ht : P.underlying t = some (.int k)) : Flat P t [.int k] := by
  intro H enc w base spare held fuel cs x h
  obtain ⟨n, rfl, rfl, hw⟩ := DataW.trod_int ht h
  exact ⟨⟨_, [], rfl, ⟨n, rfl, hw⟩, rfl⟩, rfl⟩
theorem Flat.bool {P : Program} {t : TypeId} (ht : P.underlying t = some .bool) : Flat P t [.bool] := by
  intro H enc w base spare held fuel cs x h
  obtain ⟨b, rfl, rfl⟩ := DataW.trod_bool ht h
  exact ⟨⟨_, [], rfl, ⟨b, rfl⟩, rfl⟩, rfl⟩
theorem Flat.str {P : Program} {t : TypeId} (ht : P.underlying t = some .string) : Flat P t [.str] := by
  intro H enc w base spare held fuel cs x h
  obtain ⟨s, rfl, rfl, hs⟩ := DataW.trod_string ht h
  exact ⟨⟨_, [], rfl, ⟨s, rfl, hs⟩, rfl⟩, rfl⟩
/-- Cells cut into pieces of given sizes. -/
theorem fits_pieces (kss : List (List FK)) : ∀ (cs : List Value), cs.length = (kss.map List.length).sum →
    (∀ i, i < kss.length → Fits (kss.getD i []) ((cs.drop ((kss.take i).map List.length).sum).take (kss.getD i []).length)) → Fits kss.flatten cs := by
  induction kss with
  | nil => intro cs hl _; simp at hl; subst hl; exact rfl
  | cons ks kss ih =>
    intro cs hl h
    have h0 := h 0 (by simp)
    simp at h0
    have hrest : Fits kss.flatten (cs.drop ks.length) := by
      refine ih (cs.drop ks.length) (by simp at hl ⊢; omega) ?_
      intro i hi
      have h1 := h (i + 1) (by simpa using hi)
      simp only [List.take_succ_cons, List.map_cons, List.sum_cons, List.getD_cons_succ] at h1
      rw [List.drop_drop]
      exact h1
    have := h0.append hrest
    rwa [List.take_append_drop] at this
theorem Flat.array {P : Program} {t e : TypeId} {n : Nat} {ks : List FK} (ht : P.underlying t = some (.array n e)) (he : Flat P e ks) (hc : P.cellsOf e = ks.length) (hct : P.cellsOf t = n * ks.length) : Flat P t (List.replicate n ks).flatten := by
  intro H enc w base spare held fuel cs x h
  obtain ⟨xs, m, rfl, rfl, hlen, hxs, hat⟩ := DataW.trod_array ht h
  have hi : ∀ i, i < n → ∃ y, xs[i]? = some y ∧ Fits ks ((cs.drop (i * ks.length)).take ks.length) ∧ y.2 = [] := by
    intro i hi
    have h1 := hat i hi
    rw [hc, List.getElem?_eq_getElem (by omega)] at h1
    obtain ⟨f1, f2⟩ := he H enc w base spare held m _ _ h1
    exact ⟨_, List.getElem?_eq_getElem (by omega), f1, f2⟩
  refine ⟨fits_pieces _ cs (by rw [hlen, hct]; simp) ?_, ?_⟩
  · intro i hin
    simp at hin
    obtain ⟨y, _, f1, _⟩ := hi i hin
    have e1 : (List.replicate n ks).getD i [] = ks := by rw [List.getD_eq_getElem?_getD]; simp [hin]
    have e2 : ((List.take i (List.replicate n ks)).map List.length).sum = i * ks.length := by
      rw [List.take_replicate, Nat.min_eq_left (by omega)]; simp
    rw [e1, e2]
    exact f1
  · rw [List.flatMap_eq_nil_iff]
    intro y hy
    obtain ⟨i, hi', rfl⟩ := List.mem_iff_getElem.1 hy
    obtain ⟨z, hz, _, f2⟩ := hi i (by omega)
    rw [List.getElem?_eq_getElem hi'] at hz
    cases hz
    exact f2
/-- The fields' places and kinds fit. -/
def FieldsFlat (P : Program) (fs : Array Field) (kss : List (List FK)) : Prop :=
  fs.size = kss.length ∧ ∀ i, i < kss.length → ∃ f, fs[i]? = some f ∧ f.offset = ((kss.take i).map List.length).sum ∧ P.cellsOf f.type = (kss.getD i []).length ∧ Flat P f.type (kss.getD i [])
theorem Flat.struct {P : Program} {t : TypeId} {fs : Array Field} {kss : List (List FK)} (ht : P.underlying t = some (.struct fs)) (hf : FieldsFlat P fs kss) (hct : P.cellsOf t = (kss.map List.length).sum) : Flat P t kss.flatten := by
  intro H enc w base spare held fuel cs x h
  obtain ⟨xs, m, rfl, rfl, hlen, hxs, hat⟩ := DataW.trod_struct ht h
  obtain ⟨hn, hf⟩ := hf
  have hi : ∀ i, i < kss.length → ∃ y, xs[i]? = some y ∧ Fits (kss.getD i []) ((cs.drop ((kss.take i).map List.length).sum).take (kss.getD i []).length) ∧ y.2 = [] := by
    intro i hi
    obtain ⟨f, f1, f2, f3, f4⟩ := hf i hi
    have h1 := hat i f f1
    rw [f2, f3, List.getElem?_eq_getElem (by omega)] at h1
    obtain ⟨g1, g2⟩ := f4 H enc w base spare held m _ _ h1
    exact ⟨_, List.getElem?_eq_getElem (by omega), g1, g2⟩
  refine ⟨fits_pieces _ cs (by rw [hlen, hct]) ?_, ?_⟩
  · intro i hin
    obtain ⟨y, _, f1, _⟩ := hi i hin
    exact f1
  · rw [List.flatMap_eq_nil_iff]
    intro y hy
    obtain ⟨i, hi', rfl⟩ := List.mem_iff_getElem.1 hy
    obtain ⟨z, hz, _, f2⟩ := hi i (by omega)
    rw [List.getElem?_eq_getElem hi'] at hz
    cases hz
    exact f2
theorem FieldsFlat.nil {P : Program} : FieldsFlat P #[] [] := ⟨rfl, fun i h => absurd h (by simp)⟩
/-- One field after another: the last one. -/
theorem FieldsFlat.push {P : Program} {fs : List Field} {kss : List (List FK)} {f : Field} {ks : List FK} (h : FieldsFlat P fs.toArray kss) (ho : f.offset = (kss.map List.length).sum) (hc : P.cellsOf f.type = ks.length) (hf : Flat P f.type ks) :
    FieldsFlat P (fs ++ [f]).toArray (kss ++ [ks]) := by
  obtain ⟨hn, h⟩ := h
  simp at hn
  refine ⟨by simp [hn], fun i hi => ?_⟩
  simp at hi
  by_cases e : i < kss.length
  · obtain ⟨g, g1, g2, g3, g4⟩ := h i e
    refine ⟨g, ?_, ?_, ?_, ?_⟩
    · simp at g1 ⊢; rw [List.getElem?_append_left (by omega)]; exact g1
    · rw [List.take_append_of_le_length (by omega)]; exact g2
    · rw [List.getD_eq_getElem?_getD, List.getElem?_append_left e, ← List.getD_eq_getElem?_getD]; exact g3
    · rw [List.getD_eq_getElem?_getD, List.getElem?_append_left e, ← List.getD_eq_getElem?_getD]; exact g4
  · have e' : i = kss.length := by omega
    subst e'
    have ek : (kss ++ [ks]).getD kss.length [] = ks := by simp
    refine ⟨f, ?_, ?_, ?_, ?_⟩
    · simp [← hn]
    · simp [ho]
    · rw [ek]; exact hc
    · rw [ek]; exact hf
theorem okWide_array {P : Program} {w : World} {r : Reach} {base : Nat} {t e : TypeId} {n : Nat} {v : Value} (ht : P.underlying t = some (.array n e)) (h : Value.okWide P w r base t v) : ∃ cs, v = .agg cs ∧ cs.size = P.cellsOf t := by
  simp only [Value.okWide, ht] at h
  obtain ⟨cs, h1, h2, _⟩ := h
  exact ⟨cs, h1, h2⟩
/-- A struct, or an array, by value, opened. -/
theorem open_flat {P : Program} {H : Type} {enc : TypeId × Value → H} {w : World} {base : Nat} {spare : Nat → Bool} {held : Bool} {t : TypeId} {v : Value} {d : DataW H} {p : List MemPlace} {ks : List FK}
    (hv : ∃ cs, v = .agg cs) (hf : Flat P t ks) (h : DataW.Trod enc P w base spare held t v d p) : ∃ cs, v = .agg ⟨cs⟩ ∧ Fits ks cs ∧ p = [] := by
  obtain ⟨⟨cs⟩, rfl⟩ := hv
  obtain ⟨fuel, hx⟩ := h
  obtain ⟨h1, h2⟩ := hf H enc w base spare held fuel _ _ hx
  exact ⟨cs, rfl, h1, h2⟩
/-- What leads nowhere reads the same in any world that is the same below. -/
theorem stays_flat {P : Program} {H : Type} {enc : TypeId × Value → H} {t : TypeId} (hl : laidOutB P = true) (hr : P.readableRec t = true) (hrow : t < P.types.size) {W W' : World} {v : Value} {d : DataW H}
    (h : DataW.Trod enc P W 0 (fun _ => true) true t v d []) (hb : Below W.heap.size W W') : DataW.Trod enc P W' 0 (fun b => decide (b < W.heap.size)) true t v d [] :=
  Below.trod hl hr hrow h hb (fun _ hx => absurd hx (by simp))
end Go.Proofs.YtcbjkfhflmlniaaDoorW.VRow
