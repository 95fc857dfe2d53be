import Derived.Test.YtlfldoghomnbkaaSQVfs0
-- Texts of this seat, what the claim does not reach struck out by a program.
namespace Go.Proofs.Ytlfldoghomnbkaa.QVfs
open Go.RowKit Go.Proofs.YtlfldoghomnbkaaW.PrintWords Go.Proofs.YtlfldoghomnbkaaW.PrintLast Go.Proofs.YtlfldoghomnbkaaW.PrintMore
set_option linter.unusedVariables false
structure Ext (w : World) where
 W : World
 bel : Below w.heap.size w W
instance Ext.some_ (w : World) : Nonempty (Ext w) := ⟨⟨w, Below.refl _ w⟩⟩
theorem Ext.cell {w : World} {p : Addr} {v : Value} (h : w.cell? p = some v) : ∀ x : Ext w, x.W.cell? p = some v := fun x => pw_cell_below x.bel h
theorem wp_region_ext {P : Program} {id : Nat} {Q : Exit → Act → World → Prop} {a : Act} {w : World} {l : List Oper} (hm : P.follows .mixedOrders = true) (hB : Region.lexB .any l.toArray = true)
  (h : wpQuiet P l.toArray (fun w' => ∃ x : Ext w, w' = x.W) (fun a' => ∀ w', (∃ x : Ext w, w' = x.W) → Q .normal a' w') l a) : (Code.region id l.toArray true).wp P Q a w :=
 wp_region_quiet (C := fun w' => ∃ x : Ext w, w' = x.W) hm hB ⟨⟨{ w with drawn := w.drawn + 1 }, below_drew1 (Below.refl _ w)⟩, rfl⟩ (by simpa using h)
theorem Ext.call {P : Program} {f : FuncId} {args : Array Value} {w : World} {v : Value} (x : Ext w) (h : Calls P f args x.W fun e w' => e = .returned v ∧ Below x.W.heap.size x.W w') :
  Calls P f args x.W fun e w' => e = .returned v ∧ ∃ y : Ext w, w' = y.W :=
 h.mono fun _ w' hp => ⟨hp.1, ⟨w', below_step x.bel hp.2⟩, rfl⟩
end Go.Proofs.Ytlfldoghomnbkaa.QVfs
