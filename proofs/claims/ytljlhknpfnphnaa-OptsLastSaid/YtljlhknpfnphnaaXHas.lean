/- opts.Has: is there an option of a letter? -/
import Derived.Test.YtljlhknpfnphnaaXIdx
namespace Go.Proofs.Ytljlhknpfnphnaa.QOpts
open Go.RowKit Go.Lib Go.Proofs.YtljlhknpfnphnaaW.PrintWords Go.Proofs.YtljlhknpfnphnaaW.PrintLast Go.Proofs.YtljlhknpfnphnaaW.PrintMore
set_option linter.unusedVariables false
set_option linter.unusedSimpArgs false

def opts_Has.f (k : Nat) (l0 : List S36) (a1 : Int) : Option Bool := some (l0.any (optP a1))
theorem opts_Has.mono : ∀ a0 a1 k, LeO (opts_Has.f k a0 a1) (opts_Has.f (k + 1) a0 a1) := fun _ _ _ => LeO.refl _
set_option maxHeartbeats 1000000 in
theorem opts_Has.calls (k : Nat) (A0 : Option Addr) (c0 : Nat) (l0 : List S36) (a1 : Int) (r : Bool) (w : World) (hr0 : Kd.C k36 w A0 l0.length l0) (hc0 : l0.length ≤ c0) (h : opts_Has.f k l0 a1 = some r) :
    Calls Try.prog 14 #[.slice A0 l0.length c0, .int .u8 a1] w fun e w' => e = .returned (.bool r) ∧ Below w.heap.size w w' := by
  obtain rfl : l0.any (optP a1) = r := Option.some.inj h
  clear h
  have bW := below_alloc (Below.refl w.heap.size w) (Obj.cells #[.int .u8 a1] 5)
  have hcell : (w.alloc (Obj.cells #[.int .u8 a1] 5)).cell? ⟨w.heap.size, 0, none⟩ = some (.int .u8 a1) := (blk_cell (heap_alloc_new w _) 0).trans rfl
  have cF := containsFunc_opt 23 #[.pointer (some ⟨w.heap.size, 0, none⟩)] (optP a1) (w.alloc (Obj.cells #[.int .u8 a1] 5)) A0 c0 l0 (Kd.C_below hr0 bW) hc0 (enters_of Try.func23 (by kernel_rfl) rfl)
    (fun x W hb => closure23 w.heap.size a1 x W (pw_cell_below hb hcell))
  have A := Aside0.mk bW
  clear hcell bW hr0
  go_enter Try.func14, Try.ntmps14
  go_wp2_with (go_at_call 22; refine cF.mono ?_; rintro e w1 ⟨rfl, hb1⟩)
  go_ret
  exact ⟨rfl, below_step A.out hb1⟩
end Go.Proofs.Ytljlhknpfnphnaa.QOpts
