/- order.Sort, out of its closure's contract. -/
import Derived.Test.YtnlbjefhbeocmaaDoorXSort
import Derived.Laws.EntriesVeiled
namespace Go.Proofs.YtnlbjefhbeocmaaDoor.QOrderCompares
open Go.RowKit Go.Lib Go.Proofs.YtnlbjefhbeocmaaDoorW.PrintWords Go.Proofs.YtnlbjefhbeocmaaDoorW.PrintLast Go.Proofs.YtnlbjefhbeocmaaDoorW.PrintMore
open Go.Proofs.YtnlbjefhbeocmaaDoor.Ext
set_option linter.unusedVariables false
set_option linter.unusedSimpArgs false

theorem five (a : Array Obj) (o0 o1 o2 o3 o4 : Obj) : (((((a.push o0).push o1).push o2).push o3).push o4)[a.size]? = some o0 ∧ (((((a.push o0).push o1).push o2).push o3).push o4)[a.size + 1]? = some o1 ∧ (((((a.push o0).push o1).push o2).push o3).push o4)[a.size + 2]? = some o2 ∧
    (((((a.push o0).push o1).push o2).push o3).push o4)[a.size + 3]? = some o3 ∧ (((((a.push o0).push o1).push o2).push o3).push o4)[a.size + 4]? = some o4 := by
  simp only [Array.getElem?_push, Array.size_push]
  refine ⟨?_, ?_, ?_, ?_, ?_⟩ <;> (repeat (first | rfl | (split <;> (first | rfl | (exfalso; omega)) ) | (split; · exfalso; omega)))
set_option maxHeartbeats 4000000 in
set_option maxRecDepth 100000 in
theorem order_Sort.calls (k : Nat) (a0 : Int) (a1 : Bool) (a2 : Bool) (A3 : Option Addr) (c3 : Nat) (l3 : List S23) (r : List Int) (w : World) (hr3 : Kd.C k23 w A3 l3.length l3) (hc3 : l3.length ≤ c3) (h : order_Sort.f k a0 a1 a2 l3 = some r) :
    Calls Tryd.prog 16 #[.int .i64 a0, .bool a1, .bool a2, .slice A3 l3.length c3] w fun e w' => ∃ v0_ : Value, e = .returned (v0_) ∧ Kd.R (Kd.int .i64) 3 w' w.heap.size (fun _ => True) v0_ r ∧ Below w.heap.size w w' := by
  have A1 := Aside0.mk hr3
  have A2 := Aside0.mk hc3
  have A4 := Aside0.mk (show order_Sort.s k a0 a1 a2 l3 0 (l3.length : Int) = some r from h)
  clear hr3 hc3 h
  go_enter Tryd.func16, Tryd.ntmps16
  go_wp2_with (fail)
  refine (order_Sort.s_calls a0 a1 a2 A3 c3 l3 (w.heap.size + 4) w.heap.size (w.heap.size + 1) (w.heap.size + 2) (w.heap.size + 3) k 0 l3.length r _ ?_ A4.out).mono ?_
  · have HB := below_alloc (below_alloc (below_alloc (below_alloc (below_alloc (Below.refl w.heap.size w) (Obj.cells #[Value.int IntKind.i64 a0] 3)) (Obj.cells #[Value.bool a1] 4)) (Obj.cells #[Value.bool a2] 4)) (Obj.cells #[Value.slice A3 l3.length c3] 26)) (Obj.cells #[Value.func (Fn.func 28) #[] #[Value.pointer (some { block := w.heap.size + 1 + 1 + 1 + 1, off := 0 }), Value.pointer (some { block := w.heap.size, off := 0 }), Value.pointer (some { block := w.heap.size + 1, off := 0 }), Value.pointer (some { block := w.heap.size + 1 + 1, off := 0 }), Value.pointer (some { block := w.heap.size + 1 + 1 + 1, off := 0 })]] 50)
    have F5 := five w.heap (Obj.cells #[Value.int IntKind.i64 a0] 3) (Obj.cells #[Value.bool a1] 4) (Obj.cells #[Value.bool a2] 4) (Obj.cells #[Value.slice A3 l3.length c3] 26) (Obj.cells #[Value.func (Fn.func 28) #[] #[Value.pointer (some { block := w.heap.size + 1 + 1 + 1 + 1, off := 0 }), Value.pointer (some { block := w.heap.size, off := 0 }), Value.pointer (some { block := w.heap.size + 1, off := 0 }), Value.pointer (some { block := w.heap.size + 1 + 1, off := 0 }), Value.pointer (some { block := w.heap.size + 1 + 1 + 1, off := 0 })]] 50)
    exact ⟨F5.2.2.2.2, F5.1, F5.2.1, F5.2.2.1, F5.2.2.2.1, Kd.C_below A1.out HB, A2.out⟩
  · rintro e w' ⟨v, rfl, hR, hB⟩
    go_wp2_with (fail)
    go_ret
    have HB := below_alloc (below_alloc (below_alloc (below_alloc (below_alloc (Below.refl w.heap.size w) (Obj.cells #[Value.int IntKind.i64 a0] 3)) (Obj.cells #[Value.bool a1] 4)) (Obj.cells #[Value.bool a2] 4)) (Obj.cells #[Value.slice A3 l3.length c3] 26)) (Obj.cells #[Value.func (Fn.func 28) #[] #[Value.pointer (some { block := w.heap.size + 1 + 1 + 1 + 1, off := 0 }), Value.pointer (some { block := w.heap.size, off := 0 }), Value.pointer (some { block := w.heap.size + 1, off := 0 }), Value.pointer (some { block := w.heap.size + 1 + 1, off := 0 }), Value.pointer (some { block := w.heap.size + 1 + 1 + 1, off := 0 })]] 50)
    exact ⟨_, rfl, Kd.R_lower hR HB.size, below_step HB hB⟩
end Go.Proofs.YtnlbjefhbeocmaaDoor.QOrderCompares
