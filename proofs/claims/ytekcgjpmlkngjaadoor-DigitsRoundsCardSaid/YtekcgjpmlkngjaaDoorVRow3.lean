/- Arguments that are slices (of numbers, texts, structs, slices), opened: each reads as a value of its kind, and its numbers lie in their ranges. -/
import Derived.Test.YtekcgjpmlkngjaaDoorVRow
import Derived.Test.YtekcgjpmlkngjaaDoorWMore
import Derived.Deep.Slices
namespace Go.Proofs.YtekcgjpmlkngjaaDoorW.VRow3
open Go.ChangeShapes Go.WideShapes Go.ChangeAt Go.RowKit Go.Proofs.YtekcgjpmlkngjaaDoorW.PrintWords
set_option linter.unusedVariables false
set_option linter.unusedSimpArgs false

/-- Whatever reads as a value of type t is of the kind d, and Q holds of it. -/
def TellsQ (P : Program) (t : TypeId) {α : Type} (d : Kd α) (Q : α → Prop) : Prop :=
  ∀ (H : Type) (enc : TypeId × Value → H) (w : World) (base : Nat) (spare : Nat → Bool) (held : Bool) (fuel : Nat) (cs : List Value) (x : DataW H × List MemPlace),
    DataW.trod enc P w base spare held fuel t cs = some x → ∃ v : α, d.K w v cs ∧ Q v
theorem TellsQ.int {P : Program} {t : TypeId} {k : IntKind} (ht : P.underlying t = some (.int k)) : TellsQ P t (Kd.int k) (fun n => (Lit.int k n).wf = true) := by
  intro H enc w base spare held fuel cs x h
  obtain ⟨n, rfl, rfl, hw⟩ := DataW.trod_int ht h
  exact ⟨n, rfl, hw⟩
theorem TellsQ.bool {P : Program} {t : TypeId} (ht : P.underlying t = some .bool) : TellsQ P t Kd.bool (fun _ => True) := by
  intro H enc w base spare held fuel cs x h
  obtain ⟨b, rfl, rfl⟩ := DataW.trod_bool ht h
  exact ⟨b, rfl, trivial⟩
theorem TellsQ.str {P : Program} {t : TypeId} (ht : P.underlying t = some .string) : TellsQ P t Kd.string (fun s => s.size ≤ maxLen) := by
  intro H enc w base spare held fuel cs x h
  obtain ⟨s, rfl, rfl, hs⟩ := DataW.trod_string ht h
  exact ⟨s, rfl, hs⟩
theorem TellsQ.iso {P : Program} {t : TypeId} {α β : Type} {d : Kd α} {Q : α → Prop} (h : TellsQ P t d Q) (f : β → α) (g : α → β) (hfg : ∀ a, f (g a) = a) : TellsQ P t (Kd.iso d f) (fun b => Q (f b)) := by
  intro H enc w base spare held fuel cs x hx
  obtain ⟨v, hv, hq⟩ := h H enc w base spare held fuel cs x hx
  refine ⟨g v, ?_, ?_⟩
  · show d.K w (f (g v)) cs
    rw [hfg]; exact hv
  · show Q (f (g v))
    rw [hfg]; exact hq
theorem TellsQ.slice {P : Program} {t e : TypeId} {α : Type} {d : Kd α} {Q : α → Prop} (ht : P.underlying t = some (.slice e)) (he : TellsQ P e d Q) (hc : P.cellsOf e = d.sz) : TellsQ P t (Kd.slice e d) (fun l => ∀ x ∈ l, Q x) := by
  intro H enc w base spare held fuel cs x h
  rcases Go.Deep.open_slice ht h with ⟨rfl, _⟩ | ⟨a, len, cap, m, n, D, Pl, rfl, hb, hl, hm, hmm, _, hi⟩
  · exact ⟨[], ⟨none, 0, rfl, Nat.le_refl _, Kd.C_nil d w⟩, fun _ h => by cases h⟩
  · have hlm : len ≤ m := by rw [hmm]; split <;> omega
    have hv : ∀ i : Fin len, ∃ v : α, Q v ∧ ∃ cs' : List Value, d.K w v cs' ∧ ∀ j u, cs'[j]? = some u → w.cell? (a.add (i.val * d.sz + j)) = some u := by
      intro i
      obtain ⟨cs', h1, h2⟩ := hi i.val (by omega)
      obtain ⟨v, hv, hq⟩ := he H enc w base spare held n cs' _ h2
      rw [hc] at h1
      obtain ⟨_, hlen, hat⟩ := World.cells?_some h1
      refine ⟨v, hq, cs', hv, fun j u hj => ?_⟩
      have hjl : j < cs'.length := (List.getElem?_eq_some_iff.1 hj).1
      rw [← Go.Deep.add_add, hat j (by omega), hj]
    have hx : (List.ofFn fun i => Classical.choose (hv i)).length = len := by simp
    refine ⟨List.ofFn fun i => Classical.choose (hv i), ⟨some a, cap, by rw [hx], by omega, rfl, by rw [hx]; unfold maxLen at hm; omega, fun _ => ⟨a, rfl, fun j p hp => ?_⟩⟩, fun y hy => ?_⟩
    · have hj : j < len := by
        have := (List.getElem?_eq_some_iff.1 hp).1
        omega
      have hp' : Classical.choose (hv ⟨j, hj⟩) = p := by
        rw [List.getElem?_ofFn] at hp
        simpa [hj] using hp
      obtain ⟨_, cs', hk, hcell⟩ := Classical.choose_spec (hv ⟨j, hj⟩)
      rw [hp'] at hk
      exact ⟨cs', d.K_len hk, hk, hcell⟩
    · rw [List.mem_ofFn] at hy
      obtain ⟨i, rfl⟩ := hy
      exact (Classical.choose_spec (hv i)).1
/-- The fields from an offset on. -/
def TellsFQ (P : Program) (fs : List Field) (off : Nat) {α : Type} (d : Kd α) (Q : α → Prop) : Prop :=
  ∀ (H : Type) (enc : TypeId × Value → H) (w : World) (base : Nat) (spare : Nat → Bool) (held : Bool) (n : Nat) (cs : List Value),
    (∀ f, f ∈ fs → ∃ y, DataW.trod enc P w base spare held n f.type ((cs.drop f.offset).take (P.cellsOf f.type)) = some y) → cs.length = off + d.sz → ∃ v : α, d.K w v (cs.drop off) ∧ Q v
theorem TellsFQ.one {P : Program} {f : Field} {off : Nat} {α : Type} {d : Kd α} {Q : α → Prop} (ho : f.offset = off) (hc : P.cellsOf f.type = d.sz) (h : TellsQ P f.type d Q) : TellsFQ P [f] off d Q := by
  intro H enc w base spare held n cs hf hl
  obtain ⟨y, hy⟩ := hf f (by simp)
  rw [ho, hc, List.take_of_length_le (by rw [List.length_drop]; omega)] at hy
  exact h H enc w base spare held n _ y hy
theorem TellsFQ.cons {P : Program} {f : Field} {fs : List Field} {off : Nat} {α β : Type} {a : Kd α} {b : Kd β} {Qa : α → Prop} {Qb : β → Prop} (ho : f.offset = off) (hc : P.cellsOf f.type = a.sz) (h : TellsQ P f.type a Qa) (hs : TellsFQ P fs (off + a.sz) b Qb) : TellsFQ P (f :: fs) off (Kd.pair a b) (fun p => Qa p.1 ∧ Qb p.2) := by
  intro H enc w base spare held n cs hf hl
  have hl' : cs.length = off + (a.sz + b.sz) := hl
  obtain ⟨y, hy⟩ := hf f (by simp)
  rw [ho, hc] at hy
  obtain ⟨v, hv, hqv⟩ := h H enc w base spare held n _ y hy
  obtain ⟨u, hu, hqu⟩ := hs H enc w base spare held n cs (fun g hg => hf g (by simp [hg])) (by omega)
  refine ⟨(v, u), ⟨(cs.drop off).take a.sz, cs.drop (off + a.sz), ?_, hv, hu⟩, hqv, hqu⟩
  rw [← List.drop_drop, List.take_append_drop]
theorem TellsQ.struct {P : Program} {t : TypeId} {fs : List Field} {α : Type} {d : Kd α} {Q : α → Prop} (ht : P.underlying t = some (.struct fs.toArray)) (hc : P.cellsOf t = d.sz) (h : TellsFQ P fs 0 d Q) : TellsQ P t d Q := by
  intro H enc w base spare held fuel cs x hx
  obtain ⟨xs, m, rfl, rfl, hlen, hxs, hat⟩ := DataW.trod_struct ht hx
  have := h H enc w base spare held m cs (fun f hf => by
    obtain ⟨i, hi, rfl⟩ := List.getElem_of_mem hf
    have h1 := hat i fs[i] (by simp [hi])
    have hxl : i < xs.length := by rw [hxs]; simpa using hi
    rw [List.getElem?_eq_getElem hxl] at h1
    exact ⟨_, h1⟩) (by rw [hlen, hc]; omega)
  simpa using this
theorem TellsQ.structA {P : Program} {t : TypeId} {fs : Array Field} {α : Type} {d : Kd α} {Q : α → Prop} (ht : P.underlying t = some (.struct fs)) (hc : P.cellsOf t = d.sz) (h : TellsFQ P fs.toList 0 d Q) : TellsQ P t d Q :=
  TellsQ.struct (fs := fs.toList) (by rw [ht]) hc h
/-- A slice that came in: what it holds. -/
theorem open_toldQ {P : Program} {H : Type} {enc : TypeId × Value → H} {w : World} {base : Nat} {spare : Nat → Bool} {held : Bool} {t e : TypeId} {α : Type} {d : Kd α} {Q : α → Prop} {A : Option Addr} {n c : Nat} {dd : DataW H} {p : List MemPlace}
    (hs : TellsQ P t (Kd.slice e d) (fun l => ∀ x ∈ l, Q x)) (h : DataW.Trod enc P w base spare held t (.slice A n c) dd p) : ∃ xs : List α, d.C w A xs.length xs ∧ n = xs.length ∧ xs.length ≤ c ∧ ∀ x ∈ xs, Q x := by
  obtain ⟨fuel, hf⟩ := h
  obtain ⟨xs, ⟨A', c', he, hle, hC⟩, hq⟩ := hs H enc w base spare held fuel _ _ hf
  simp [Value.cells] at he
  obtain ⟨rfl, rfl, rfl⟩ := he
  exact ⟨xs, hC, rfl, hle, hq⟩
end Go.Proofs.YtekcgjpmlkngjaaDoorW.VRow3
