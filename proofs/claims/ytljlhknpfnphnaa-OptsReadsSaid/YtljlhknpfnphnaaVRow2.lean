/- Arguments that are slices (of numbers, texts, structs, slices), opened: each reads as a value of its kind. -/
import Derived.Test.YtljlhknpfnphnaaVRow
import Derived.Test.YtljlhknpfnphnaaWMore
import Derived.Deep.Slices
namespace Go.Proofs.YtljlhknpfnphnaaW.VRow
open Go.ChangeShapes Go.WideShapes Go.ChangeAt Go.RowKit Go.Proofs.YtljlhknpfnphnaaW.PrintWords
set_option linter.unusedVariables false
set_option linter.unusedSimpArgs false

/-- Whatever reads as a value of type t is of the kind d. -/
def Tells (P : Program) (t : TypeId) {α : Type} (d : Kd α) : Prop :=
  ∀ (H : Type) (enc : TypeId × Value → H) (w : World) (base : Nat) (spare : Nat → Bool) (held : Bool) (fuel : Nat) (cs : List Value) (x : DataW H × List MemPlace),
    DataW.trod enc P w base spare held fuel t cs = some x → ∃ v : α, d.K w v cs
theorem Tells.int {P : Program} {t : TypeId} {k : IntKind} (ht : P.underlying t = some (.int k)) : Tells P t (Kd.int k) := by
  intro H enc w base spare held fuel cs x h
  obtain ⟨n, rfl, rfl, hw⟩ := DataW.trod_int ht h
  exact ⟨n, rfl⟩
theorem Tells.bool {P : Program} {t : TypeId} (ht : P.underlying t = some .bool) : Tells P t Kd.bool := by
  intro H enc w base spare held fuel cs x h
  obtain ⟨b, rfl, rfl⟩ := DataW.trod_bool ht h
  exact ⟨b, rfl⟩
theorem Tells.str {P : Program} {t : TypeId} (ht : P.underlying t = some .string) : Tells P t Kd.string := by
  intro H enc w base spare held fuel cs x h
  obtain ⟨s, rfl, rfl, hs⟩ := DataW.trod_string ht h
  exact ⟨s, rfl⟩
theorem Tells.iso {P : Program} {t : TypeId} {α β : Type} {d : Kd α} (h : Tells P t d) (f : β → α) (g : α → β) (hfg : ∀ a, f (g a) = a) : Tells P t (Kd.iso d f) := by
  intro H enc w base spare held fuel cs x hx
  obtain ⟨v, hv⟩ := h H enc w base spare held fuel cs x hx
  refine ⟨g v, ?_⟩
  show d.K w (f (g v)) cs
  rw [hfg]; exact hv
theorem Tells.slice {P : Program} {t e : TypeId} {α : Type} {d : Kd α} (ht : P.underlying t = some (.slice e)) (he : Tells P e d) (hc : P.cellsOf e = d.sz) : Tells P t (Kd.slice e d) := by
  intro H enc w base spare held fuel cs x h
  rcases Go.Deep.open_slice ht h with ⟨rfl, _⟩ | ⟨a, len, cap, m, n, D, Pl, rfl, hb, hl, hm, hmm, _, hi⟩
  · exact ⟨[], none, 0, rfl, Nat.le_refl _, Kd.C_nil d w⟩
  · have hlm : len ≤ m := by rw [hmm]; split <;> omega
    have hv : ∀ i : Fin len, ∃ v : α, ∃ cs' : List Value, d.K w v cs' ∧ ∀ j u, cs'[j]? = some u → w.cell? (a.add (i.val * d.sz + j)) = some u := by
      intro i
      obtain ⟨cs', h1, h2⟩ := hi i.val (by omega)
      obtain ⟨v, hv⟩ := he H enc w base spare held n cs' _ h2
      rw [hc] at h1
      obtain ⟨_, hlen, hat⟩ := World.cells?_some h1
      refine ⟨v, cs', hv, fun j u hj => ?_⟩
      have hjl : j < cs'.length := (List.getElem?_eq_some_iff.1 hj).1
      rw [← Go.Deep.add_add, hat j (by omega), hj]
    have hx : (List.ofFn fun i => Classical.choose (hv i)).length = len := by simp
    refine ⟨List.ofFn fun i => Classical.choose (hv i), some a, cap, by rw [hx], by omega, rfl, by rw [hx]; unfold maxLen at hm; omega, fun _ => ⟨a, rfl, fun j p hp => ?_⟩⟩
    have hj : j < len := by
      have := (List.getElem?_eq_some_iff.1 hp).1
      omega
    have hp' : Classical.choose (hv ⟨j, hj⟩) = p := by
      rw [List.getElem?_ofFn] at hp
      simpa [hj] using hp
    obtain ⟨cs', hk, hcell⟩ := Classical.choose_spec (hv ⟨j, hj⟩)
    rw [hp'] at hk
    exact ⟨cs', d.K_len hk, hk, hcell⟩
/-- The fields from an offset on. -/
def TellsF (P : Program) (fs : List Field) (off : Nat) {α : Type} (d : Kd α) : Prop :=
  ∀ (H : Type) (enc : TypeId × Value → H) (w : World) (base : Nat) (spare : Nat → Bool) (held : Bool) (n : Nat) (cs : List Value),
    (∀ f, f ∈ fs → ∃ y, DataW.trod enc P w base spare held n f.type ((cs.drop f.offset).take (P.cellsOf f.type)) = some y) → cs.length = off + d.sz → ∃ v : α, d.K w v (cs.drop off)
theorem TellsF.one {P : Program} {f : Field} {off : Nat} {α : Type} {d : Kd α} (ho : f.offset = off) (hc : P.cellsOf f.type = d.sz) (h : Tells P f.type d) : TellsF P [f] off d := by
  intro H enc w base spare held n cs hf hl
  obtain ⟨y, hy⟩ := hf f (by simp)
  rw [ho, hc, List.take_of_length_le (by rw [List.length_drop]; omega)] at hy
  exact h H enc w base spare held n _ y hy
theorem TellsF.cons {P : Program} {f : Field} {fs : List Field} {off : Nat} {α β : Type} {a : Kd α} {b : Kd β} (ho : f.offset = off) (hc : P.cellsOf f.type = a.sz) (h : Tells P f.type a) (hs : TellsF P fs (off + a.sz) b) : TellsF P (f :: fs) off (Kd.pair a b) := by
  intro H enc w base spare held n cs hf hl
  have hl' : cs.length = off + (a.sz + b.sz) := hl
  obtain ⟨y, hy⟩ := hf f (by simp)
  rw [ho, hc] at hy
  obtain ⟨v, hv⟩ := h H enc w base spare held n _ y hy
  obtain ⟨u, hu⟩ := hs H enc w base spare held n cs (fun g hg => hf g (by simp [hg])) (by omega)
  refine ⟨(v, u), (cs.drop off).take a.sz, cs.drop (off + a.sz), ?_, hv, hu⟩
  rw [← List.drop_drop, List.take_append_drop]
theorem Tells.struct {P : Program} {t : TypeId} {fs : List Field} {α : Type} {d : Kd α} (ht : P.underlying t = some (.struct fs.toArray)) (hc : P.cellsOf t = d.sz) (h : TellsF P fs 0 d) : Tells P t d := by
  intro H enc w base spare held fuel cs x hx
  obtain ⟨xs, m, rfl, rfl, hlen, hxs, hat⟩ := DataW.trod_struct ht hx
  have := h H enc w base spare held m cs (fun f hf => by
    obtain ⟨i, hi, rfl⟩ := List.getElem_of_mem hf
    have h1 := hat i fs[i] (by simp [hi])
    have hxl : i < xs.length := by rw [hxs]; simpa using hi
    rw [List.getElem?_eq_getElem hxl] at h1
    exact ⟨_, h1⟩) (by rw [hlen, hc]; omega)
  simpa using this
theorem Tells.structA {P : Program} {t : TypeId} {fs : Array Field} {α : Type} {d : Kd α} (ht : P.underlying t = some (.struct fs)) (hc : P.cellsOf t = d.sz) (h : TellsF P fs.toList 0 d) : Tells P t d :=
  Tells.struct (fs := fs.toList) (by rw [ht]) hc h
/-- A slice that came in: what it holds. -/
theorem open_told {P : Program} {H : Type} {enc : TypeId × Value → H} {w : World} {base : Nat} {spare : Nat → Bool} {held : Bool} {t e : TypeId} {α : Type} {d : Kd α} {A : Option Addr} {n c : Nat} {dd : DataW H} {p : List MemPlace}
    (hs : Tells P t (Kd.slice e d)) (h : DataW.Trod enc P w base spare held t (.slice A n c) dd p) : ∃ xs : List α, d.C w A xs.length xs ∧ n = xs.length ∧ xs.length ≤ c := by
  obtain ⟨fuel, hf⟩ := h
  obtain ⟨xs, A', c', he, hle, hC⟩ := hs H enc w base spare held fuel _ _ hf
  simp [Value.cells] at he
  obtain ⟨rfl, rfl, rfl⟩ := he
  exact ⟨xs, hC, rfl, hle⟩
end Go.Proofs.YtljlhknpfnphnaaW.VRow
