/- Words for arrays of a known length: a cell by a variable index, an array value's element. -/
import Derived.Test.YtcbjkfhflmlniaaDoorWMore
import Derived.WalkKit
import Derived.RowKit3
namespace Go.Proofs.YtcbjkfhflmlniaaDoorW.PrintMore
open Go.RowKit Go.Proofs.YtcbjkfhflmlniaaDoorW.PrintWords Go.Proofs.YtcbjkfhflmlniaaDoorW.PrintLast
set_option linter.unusedVariables false
set_option linter.unusedSimpArgs false

theorem add_at0 (g o j : Nat) : (⟨g, o, none⟩ : Addr).add j = ⟨g, o + j, none⟩ := add_at g o j
theorem getD_of {α : Type} (l : List α) (d : α) (i : Nat) (h : i < l.length) : l[i]? = some (l.getD i d) := by
  rw [List.getElem?_eq_getElem h, List.getD_eq_getElem?_getD, List.getElem?_eq_getElem h]; rfl
theorem arr_cell {α : Type} {w : World} {g t : Nat} {cs : Array Value} (f : α → Value) (d : α) (o : Nat) (l : List α) (hl : (cs.toList.drop o).take l.length = l.map f) (h : w.heap[g]? = some (.cells cs t (0, 0))) (i : Int) (h0 : 0 ≤ i) (h1 : i < (l.length : Int)) :
    w.cell? ⟨g, o + i.toNat, none⟩ = some (f (l.getD i.toNat d)) := by
  have hi : i.toNat < l.length := by omega
  have e : ((cs.toList.drop o).take l.length)[i.toNat]? = some (f (l.getD i.toNat d)) := by
    rw [hl, List.getElem?_map, getD_of l d _ hi]; rfl
  rw [List.getElem?_take_of_lt hi, List.getElem?_drop] at e
  rw [blk_cell h, ← e]
  simp
theorem arr_cell_int {w : World} {g t : Nat} {k : IntKind} {cs : Array Value} (o : Nat) (l : List Int) (hl : (cs.toList.drop o).take l.length = l.map (Value.int k)) (h : w.heap[g]? = some (.cells cs t (0, 0))) (i : Int) (h0 : 0 ≤ i) (h1 : i < (l.length : Int)) :
    w.cell? ⟨g, o + i.toNat, none⟩ = some (.int k (rd l i)) := arr_cell (Value.int k) 0 o l hl h i h0 h1
theorem arr_cell_str {w : World} {g t : Nat} {cs : Array Value} (o : Nat) (l : List ByteArray) (hl : (cs.toList.drop o).take l.length = l.map Value.string) (h : w.heap[g]? = some (.cells cs t (0, 0))) (i : Int) (h0 : 0 ≤ i) (h1 : i < (l.length : Int)) :
    w.cell? ⟨g, o + i.toNat, none⟩ = some (.string (rdOf ByteArray.empty l i)) := arr_cell Value.string _ o l hl h i h0 h1
theorem arr_cell_bool {w : World} {g t : Nat} {cs : Array Value} (o : Nat) (l : List Bool) (hl : (cs.toList.drop o).take l.length = l.map Value.bool) (h : w.heap[g]? = some (.cells cs t (0, 0))) (i : Int) (h0 : 0 ≤ i) (h1 : i < (l.length : Int)) :
    w.cell? ⟨g, o + i.toNat, none⟩ = some (.bool (rdOf false l i)) := arr_cell Value.bool _ o l hl h i h0 h1
theorem arr_cell_int0 {w : World} {g t : Nat} {k : IntKind} {cs : Array Value} (o : Nat) (l : List Int) (hl : (cs.toList.drop 0).take l.length = l.map (Value.int k)) (h : w.heap[g]? = some (.cells cs t (0, 0))) (i : Int) (h0 : 0 ≤ i) (h1 : i < (l.length : Int)) :
    w.cell? ⟨g, i.toNat, none⟩ = some (.int k (rd l i)) := by
  have h := arr_cell_int 0 l hl h i h0 h1
  rw [Nat.zero_add] at h
  exact h
theorem arr_cell_str0 {w : World} {g t : Nat} {cs : Array Value} (o : Nat) (l : List ByteArray) (hl : (cs.toList.drop 0).take l.length = l.map Value.string) (h : w.heap[g]? = some (.cells cs t (0, 0))) (i : Int) (h0 : 0 ≤ i) (h1 : i < (l.length : Int)) :
    w.cell? ⟨g, i.toNat, none⟩ = some (.string (rdOf ByteArray.empty l i)) := by
  have h := arr_cell_str 0 l hl h i h0 h1
  rw [Nat.zero_add] at h
  exact h
theorem arr_cell_bool0 {w : World} {g t : Nat} {cs : Array Value} (o : Nat) (l : List Bool) (hl : (cs.toList.drop 0).take l.length = l.map Value.bool) (h : w.heap[g]? = some (.cells cs t (0, 0))) (i : Int) (h0 : 0 ≤ i) (h1 : i < (l.length : Int)) :
    w.cell? ⟨g, i.toNat, none⟩ = some (.bool (rdOf false l i)) := by
  have h := arr_cell_bool 0 l hl h i h0 h1
  rw [Nat.zero_add] at h
  exact h
theorem run_index_one_int {P : Program} {T e n : Nat} {cs : Array Value} {jk k : IntKind} {v : Value} (hT : P.underlying T = some (.array n e)) (hE : P.underlying e = some (.int k)) (hs : (P.info? e).map (fun i => i.size) = some 1) (i : Int) (h0 : 0 ≤ i) (h1 : i < (n : Int)) (hv : cs[i.toNat]? = some v) (w : World) :
    (Instr.index T (.agg cs) (.int jk i)).run P w = .ok v w := by
  obtain ⟨info, hi, hz⟩ := Option.map_eq_some_iff.1 hs
  have hb : 0 ≤ i ∧ i < (n : Int) := ⟨h0, h1⟩
  simp [Instr.index, run_underlying hT, asIntOf, hb, part, sizeOf, typeInfo, hi, hz, hv, isAgg, run_underlying hE]
theorem run_index_one_str {P : Program} {T e n : Nat} {cs : Array Value} {jk : IntKind} {v : Value} (hT : P.underlying T = some (.array n e)) (hE : P.underlying e = some .string) (hs : (P.info? e).map (fun i => i.size) = some 1) (i : Int) (h0 : 0 ≤ i) (h1 : i < (n : Int)) (hv : cs[i.toNat]? = some v) (w : World) :
    (Instr.index T (.agg cs) (.int jk i)).run P w = .ok v w := by
  obtain ⟨info, hi, hz⟩ := Option.map_eq_some_iff.1 hs
  have hb : 0 ≤ i ∧ i < (n : Int) := ⟨h0, h1⟩
  simp [Instr.index, run_underlying hT, asIntOf, hb, part, sizeOf, typeInfo, hi, hz, hv, isAgg, run_underlying hE]
theorem run_index_one_bool {P : Program} {T e n : Nat} {cs : Array Value} {jk : IntKind} {v : Value} (hT : P.underlying T = some (.array n e)) (hE : P.underlying e = some .bool) (hs : (P.info? e).map (fun i => i.size) = some 1) (i : Int) (h0 : 0 ≤ i) (h1 : i < (n : Int)) (hv : cs[i.toNat]? = some v) (w : World) :
    (Instr.index T (.agg cs) (.int jk i)).run P w = .ok v w := by
  obtain ⟨info, hi, hz⟩ := Option.map_eq_some_iff.1 hs
  have hb : 0 ≤ i ∧ i < (n : Int) := ⟨h0, h1⟩
  simp [Instr.index, run_underlying hT, asIntOf, hb, part, sizeOf, typeInfo, hi, hz, hv, isAgg, run_underlying hE]
theorem arr_index_int {P : Program} {T e n : Nat} {cs : Array Value} {jk k : IntKind} (l : List Int) (hl : cs = (l.map (Value.int k)).toArray) (hT : P.underlying T = some (.array n e)) (hE : P.underlying e = some (.int k)) (hs : (P.info? e).map (fun i => i.size) = some 1) (i : Int) (h0 : 0 ≤ i) (h1 : i < (n : Int)) (hn : l.length = n) (w : World) :
    (Instr.index T (.agg cs) (.int jk i)).run P w = .ok ((Value.int k) (rd l i)) w := by
  refine run_index_one_int hT hE hs i h0 h1 ?_ w
  have hi : i.toNat < l.length := by omega
  rw [hl]
  simp only [List.getElem?_toArray, List.getElem?_map, getD_of l 0 _ hi]
  rfl
theorem arr_index_str {P : Program} {T e n : Nat} {cs : Array Value} {jk : IntKind} (l : List ByteArray) (hl : cs = (l.map Value.string).toArray) (hT : P.underlying T = some (.array n e)) (hE : P.underlying e = some .string) (hs : (P.info? e).map (fun i => i.size) = some 1) (i : Int) (h0 : 0 ≤ i) (h1 : i < (n : Int)) (hn : l.length = n) (w : World) :
    (Instr.index T (.agg cs) (.int jk i)).run P w = .ok (Value.string (rdOf ByteArray.empty l i)) w := by
  refine run_index_one_str hT hE hs i h0 h1 ?_ w
  have hi : i.toNat < l.length := by omega
  rw [hl]
  simp only [List.getElem?_toArray, List.getElem?_map, getD_of l ByteArray.empty _ hi]
  rfl
theorem arr_index_bool {P : Program} {T e n : Nat} {cs : Array Value} {jk : IntKind} (l : List Bool) (hl : cs = (l.map Value.bool).toArray) (hT : P.underlying T = some (.array n e)) (hE : P.underlying e = some .bool) (hs : (P.info? e).map (fun i => i.size) = some 1) (i : Int) (h0 : 0 ≤ i) (h1 : i < (n : Int)) (hn : l.length = n) (w : World) :
    (Instr.index T (.agg cs) (.int jk i)).run P w = .ok (Value.bool (rdOf false l i)) w := by
  refine run_index_one_bool hT hE hs i h0 h1 ?_ w
  have hi : i.toNat < l.length := by omega
  rw [hl]
  simp only [List.getElem?_toArray, List.getElem?_map, getD_of l false _ hi]
  rfl
end Go.Proofs.YtcbjkfhflmlniaaDoorW.PrintMore
