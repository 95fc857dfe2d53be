/- opts.Read as the printed texts call it. -/
import Derived.Test.YtljlhknpfnphnaaXRead
namespace Go.Proofs.Ytljlhknpfnphnaa.QOpts
open Go.RowKit Go.Lib Go.Proofs.YtljlhknpfnphnaaW.PrintWords Go.Proofs.YtljlhknpfnphnaaW.PrintLast Go.Proofs.YtljlhknpfnphnaaW.PrintMore
set_option linter.unusedVariables false
set_option linter.unusedSimpArgs false

def opts_Read.f (k : Nat) (l0 : List S42) (l1 : List ByteArray) : Option (List S36 × List ByteArray × ByteArray × Int) :=
  if l0.length ≤ 1000 ∧ l1.length ≤ 1000 ∧ (l1.all fun a => decide (a.size ≤ 1000)) = true then some (readF l0 l1.length l1 [] []) else none
theorem opts_Read.mono : ∀ a0 a1 k, LeO (opts_Read.f k a0 a1) (opts_Read.f (k + 1) a0 a1) := fun _ _ _ => LeO.refl _
theorem opts_Read.calls (k : Nat) (A0 : Option Addr) (c0 : Nat) (l0 : List S42) (A1 : Option Addr) (c1 : Nat) (l1 : List ByteArray) (r0 : List S36) (r1 : List ByteArray) (r2 : ByteArray) (r3 : Int) (w : World) (hr0 : Kd.C k42 w A0 l0.length l0) (hc0 : l0.length ≤ c0) (hr1 : Kd.C Kd.string w A1 l1.length l1) (hc1 : l1.length ≤ c1) (h : opts_Read.f k l0 l1 = some (r0, r1, r2, r3)) :
    Calls Try.prog 9 #[.slice A0 l0.length c0, .slice A1 l1.length c1] w fun e w' => ∃ v0_ v1_ : Value, e = .returned (.tuple #[v0_, v1_, .string r2, .int .i64 r3]) ∧ Kd.R k36 36 w' w.heap.size (fun _ => True) v0_ r0 ∧ Kd.R Kd.string 9 w' w.heap.size (fun _ => True) v1_ r1 ∧ Below w.heap.size w w' := by
  unfold opts_Read.f at h
  split at h
  · rename_i hc
    obtain ⟨h1, h2, h3⟩ := hc
    have hs : Small l1 [] [] := ⟨fun a ha => by simpa using List.all_eq_true.1 h3 a ha, by simp; omega, by simp; omega⟩
    exact read_calls A0 c0 l0 A1 c1 l1 w hr0 hc0 hr1 hc1 (by omega) hs (r0, r1, r2, r3) (Option.some.inj h)
  · cases h
theorem eqA36 (d : Nat) (w : World) (x0 y0 : Int) (x1 y1 : ByteArray) :
    (Op.equalIn (d + 2) 36 (.agg #[.int .u8 x0, .string x1]) (.agg #[.int .u8 y0, .string y1])).run Try.prog w = .ok (x0 == y0 && (x1.toList == y1.toList)) w := by
  refine eqA_of Try.underlying36 (by kernel_rfl) ?_
  refine eqf_cons (by rfl) (by go_simp; rfl) (by go_simp; rfl) (by go_simp) ?_
  exact eqf_last (by rfl) (by go_simp; rfl) (by go_simp; rfl) (by go_simp)
end Go.Proofs.Ytljlhknpfnphnaa.QOpts
