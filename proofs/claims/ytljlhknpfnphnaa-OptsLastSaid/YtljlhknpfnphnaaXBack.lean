/- slices.Backward over options: the iterator's contract. -/
import Derived.RangeFuncNested
import Derived.RangeFuncBound
import Derived.RangeFuncCalls
import Derived.RangeFuncLeaves
import Derived.Shelf.Abstract
import Derived.Shelf.RegionOpen
import Derived.WalkKit
import Derived.OwnWalkIn
import Derived.TacticsInMore
import Derived.LoopNIn
import Derived.LoopIn
import Derived.Test.YtljlhknpfnphnaaXHas
namespace Go.Proofs.Ytljlhknpfnphnaa.QOpts
open Go.RowKit Go.Shelf Go.Proofs.YtljlhknpfnphnaaW.PrintWords Go.Proofs.YtljlhknpfnphnaaW.PrintLast Go.Proofs.YtljlhknpfnphnaaW.PrintMore
attribute [local go_sem] Oper.semAt_some
set_option linter.unusedVariables false
set_option linter.unusedSimpArgs false

/-- What has come when k rounds are over. -/
def upto {α : Type} (f : Nat → α) (k : Nat) : List α := (List.range k).map f
theorem upto_succ {α : Type} (f : Nat → α) (k : Nat) : upto f (k + 1) = upto f k ++ [f k] := by simp [upto, List.range_succ]
theorem upto_length {α : Type} (f : Nat → α) (k : Nat) : (upto f k).length = k := by simp [upto]
/-- The k-th from behind. -/
def bk (l : List S36) (k : Nat) : Nat × S36 := (l.length - 1 - k, rd_T36 l (((l.length - 1 - k : Nat)) : Int))
def encB (x : Nat × S36) : Array Value := #[.int .i64 (x.1 : Int), .agg #[.int .u8 x.2.f0, .string x.2.f1]]
set_option maxHeartbeats 2000000 in
theorem back1_in (F : Fence) (n : Nat) (h8 : F.fn 29) (hro : F.round = none) (hn : 1 ≤ n) (y Bs n₀ : Nat) (ad : Addr) (cap : Nat) (l : List S36) (hn0 : l.length ≤ 1000000) (J Jx : List (Nat × S36) → World → Prop)
    (hY : ∀ pre x W, J pre W → pre.length < l.length → YieldAt F (n - 1) Try.prog y (encB x) W fun e W' =>
      (e = .returned (.bool true) ∧ J (pre ++ [x]) W' ∧ Below n₀ W W') ∨ (e = .returned (.bool false) ∧ Jx (pre ++ [x]) W'))
    (W : World) (hBs : W.cell? ⟨Bs, 0, none⟩ = some (.slice (some ad) l.length cap)) (hBn : Bs < n₀) (hnW : n₀ ≤ W.heap.size) (hC : Kd.C k36 W (some ad) l.length l) (had : 0 < l.length → ad.block < n₀) (h0 : J [] W) :
    CallsIn F n Try.prog 29 #[.func (.yield y) #[] #[], .pointer (some ⟨Bs, 0, none⟩)] W fun e W' => (∃ v, e = .returned v) ∧
      ((∃ ys, ys = upto (bk l) l.length ∧ J ys W') ∨ (∃ pre, (∃ k, k ≤ l.length ∧ pre = upto (bk l) k) ∧ Jx pre W')) := by
  refine callsIn_of_wp Try.func29 rfl h8 ?_ hro
  simp only [Try.ntmps29, List.size_toArray, List.length_cons, List.length_nil, Nat.reduceAdd, Nat.reduceSub, Array.replicate_succ, Array.replicate_zero, List.push_toArray, List.append_toArray, List.nil_append, List.cons_append]
  have w1 : IntKind.i64.wrap ((l.length : Int) - 1) = (l.length : Int) - 1 := by rw [IntKind.wrap_i64]; omega
  gi_wp2
  gi_loopw [3] (fun i wr => ∃ k : Nat, k ≤ l.length ∧ i = .int .i64 ((l.length : Int) - 1 - k) ∧ J (upto (bk l) k) wr ∧ Below n₀ W wr)
    (fun i _ => (intOf i + 1).toNat)
  case atStart => exact ⟨0, Nat.zero_le _, by simp, h0, Below.refl _ _⟩
  case round =>
    obtain ⟨k, hk, rfl, hJs, hnx⟩ := hrel
    have hs1 := (hnx.cell (p := ⟨Bs, 0, none⟩) hBn).trans hBs
    by_cases hlt : k < l.length
    · have hm : ((l.length - 1 - k : Nat) : Int) = (l.length : Int) - 1 - k := by omega
      obtain ⟨fn, tmps, assign, body, hy, hR⟩ := hY _ (bk l k) wr hJs (by rw [upto_length]; exact hlt)
      obtain ⟨ad', he, k0, k1⟩ := at_T36 hC ((l.length : Int) - 1 - k) (by omega) (by omega)
      obtain rfl : ad = ad' := Option.some.inj he
      have hbl : (ad.add (((l.length : Int) - 1 - k).toNat * 2)).block < n₀ := by unfold Addr.add; split <;> exact had (by omega)
      replace k0 := (hnx.cell (p := ad.add (((l.length : Int) - 1 - k).toNat * 2)) hbl).trans k0
      replace k1 := (hnx.cell (p := ⟨(ad.add (((l.length : Int) - 1 - k).toNat * 2)).block, (ad.add (((l.length : Int) - 1 - k).toNat * 2)).off + 1, none⟩) hbl).trans k1
      have ht : ((l.length : Int) - 1 - k).toNat = l.length - 1 - k := by omega
      rw [ht] at k0 k1
      have p0 : 0 ≤ (l.length : Int) - 1 - k := by omega
      have p1 : (l.length : Int) - 1 - k < (l.length : Int) := by omega
      have w2 : IntKind.i64.wrap ((l.length : Int) - 1 - k - 1) = (l.length : Int) - 1 - k - 1 := by rw [IntKind.wrap_i64]; omega
      unfold encB bk at hy
      dsimp only at hy
      rw [hm] at hy
      gi_wp2
      refine hR.mono ?_
      rintro e W3 (⟨rfl, hJ3, hk3⟩ | ⟨rfl, hJx3⟩)
      · gi_wp2
        go_roundw
        case rel => exact ⟨k + 1, by omega, by first | (congr 1; omega) | go_num, by rw [upto_succ]; exact hJ3, hnx.trans hk3⟩
        case measure => simp [intOf]; omega
      · gi_wp2
        refine bodyPost_ret (results_none rfl _ _ _) rfl ?_
        exact ⟨⟨_, rfl⟩, .inr ⟨_, ⟨k + 1, by omega, (upto_succ _ _).symm⟩, hJx3⟩⟩
    · obtain rfl : k = l.length := by omega
      have n1 : ¬ (0 ≤ (l.length : Int) - 1 - l.length) := by omega
      gi_wp2
      go_end0
      exact ⟨⟨_, rfl⟩, .inl hJs⟩
set_option maxHeartbeats 1000000 in
/-- .. at the nil slice: no round. -/
theorem back1_nil_in (F : Fence) (n : Nat) (h8 : F.fn 29) (hro : F.round = none) (y Bs : Nat) (J : List (Nat × S36) → World → Prop) (cap : Nat) (W : World) (hBs : W.cell? ⟨Bs, 0, none⟩ = some (.slice none 0 cap)) (h0 : J [] W) :
    CallsIn F n Try.prog 29 #[.func (.yield y) #[] #[], .pointer (some ⟨Bs, 0, none⟩)] W fun e W' => (∃ v, e = .returned v) ∧ J [] W' := by
  refine callsIn_of_wp Try.func29 rfl h8 ?_ hro
  simp only [Try.ntmps29, List.size_toArray, List.length_cons, List.length_nil, Nat.reduceAdd, Nat.reduceSub, Array.replicate_succ, Array.replicate_zero, List.push_toArray, List.append_toArray, List.nil_append, List.cons_append]
  gi_wp2
  gi_loopw [3] (fun i wr => i = .int .i64 (-1) ∧ J [] wr) (fun _ _ => 0)
  case atStart => exact ⟨rfl, h0⟩
  case round =>
    obtain ⟨rfl, hJs⟩ := hrel
    gi_wp2
    go_end0
    exact ⟨⟨_, rfl⟩, hJs⟩
set_option maxHeartbeats 1000000 in
/-- slices.Backward(s): the slice value is boxed; the function value captures the box. -/
theorem back_in (F : Fence) (n : Nat) (h6 : F.fn 20) (hro : F.round = none) (a : Option Addr) (len cap : Nat) (w : World) :
    CallsIn F n Try.prog 20 #[.slice a len cap] w fun e w' => e = .returned (.func (.func 29) #[] #[.pointer (some ⟨w.heap.size, 0, none⟩)]) ∧ w' = w.alloc (.cells #[.slice a len cap] 26) := by
  refine callsIn_of_wp Try.func20 rfl h6 ?_ hro
  simp only [Try.ntmps20, List.size_toArray, List.length_cons, List.length_nil, Nat.reduceAdd, Nat.reduceSub, Array.replicate_succ, Array.replicate_zero, List.push_toArray, List.append_toArray, List.nil_append, List.cons_append]
  gi_wp2
  go_ret
  exact ⟨rfl, rfl⟩
/-- slices.Backward(s) hands back a value that stops. -/
theorem back_stops (F : Fence) (n : Nat) (h8 : F.fn 29) (hro : F.round = none) (hn : 1 ≤ n) (Bs n₀ : Nat) (A : Option Addr) (cap : Nat) (l : List S36) (hn0 : l.length ≤ 1000000) (w : World) (hBs : Bs < n₀) (hn₀ : n₀ ≤ w.heap.size)
    (hc : w.cell? ⟨Bs, 0, none⟩ = some (.slice A l.length cap)) (hC : Kd.C k36 w A l.length l) (had : ∀ ad, A = some ad → 0 < l.length → ad.block < n₀) :
    SeqStopsK F n Try.prog 29 #[.pointer (some ⟨Bs, 0, none⟩)] encB (Below n₀) (fun ys => ys = upto (bk l) l.length)
      (fun pre => ∃ k, k ≤ l.length ∧ pre = upto (bk l) k) l.length w := fun y J Jx W hW _ _ hY h0 => by
  have hc' := (hW.cell (p := ⟨Bs, 0, none⟩) (by show Bs < w.heap.size; omega)).trans hc
  cases A with
  | none =>
    have hl : l = [] := by
      cases l with
      | nil => rfl
      | cons x l =>
        obtain ⟨ad, he, _⟩ := at_T36 hC 0 (by omega) (by simp)
        cases he
    subst hl
    exact (back1_nil_in F n h8 hro y Bs J cap W hc' h0).mono fun e W' ⟨he, hj⟩ => ⟨he, .inl ⟨_, rfl, hj⟩⟩
  | some ad => exact back1_in F n h8 hro hn y Bs n₀ ad cap l hn0 J Jx hY W hc' hBs (Nat.le_trans hn₀ hW.size) (Kd.C_below hC hW) (had ad rfl) h0
end Go.Proofs.Ytljlhknpfnphnaa.QOpts
