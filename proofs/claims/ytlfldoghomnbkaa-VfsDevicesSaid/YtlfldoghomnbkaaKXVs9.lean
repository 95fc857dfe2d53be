import Derived.Test.YtlfldoghomnbkaaKXVs2
import Derived.Test.YtlfldoghomnbkaaKXVs3
import Derived.Test.YtlfldoghomnbkaaKXVs4
import Derived.Test.YtlfldoghomnbkaaKXVs5
import Derived.Test.YtlfldoghomnbkaaKXVs6
import Derived.Test.YtlfldoghomnbkaaKXVs7
import Derived.Test.YtlfldoghomnbkaaKXVs8
-- Texts of this seat, what the claim does not reach struck out by a program.
namespace Go.Proofs.Ytlfldoghomnbkaa.QVfs
open Go.RowKit Go.Proofs.YtlfldoghomnbkaaW.PrintWords Go.Proofs.YtlfldoghomnbkaaW.PrintLast Go.Proofs.YtlfldoghomnbkaaW.PrintMore
set_option linter.unusedVariables false
set_option linter.unusedSimpArgs false
def blocksR (n : Int) : Int := 8 * (n / 4096 + if 0 < n % 4096 then 1 else 0)
def Ref.named (R : Ref) (a : Int) (name : ByteArray) (id : Int) : Ref := ⟨R.N, R.L ++ [⟨a, ⟨name, id⟩⟩], R.Cov, R.Dead, R.Above, R.Firsts⟩
def Ref.setN (R : Ref) (i : Nat) (n : Node) : Ref := ⟨R.N.set i n, R.L, R.Cov, R.Dead, R.Above, R.Firsts⟩
def modeN (n : Node) (m : Int) : Node := ⟨n.f0, n.f1, n.f2, modeR m, n.f4, n.f5, n.f6, n.f7, n.f8, n.f9, n.f10⟩
def ownN (n : Node) (u v : Int) : Node := ⟨n.f0, n.f1, n.f2, n.f3, max u 0, max v 0, n.f6, n.f7, n.f8, n.f9, n.f10⟩
def timeN (n : Node) (k t : Int) : Node := ⟨n.f0, n.f1, n.f2, n.f3, n.f4, n.f5, n.f6, n.f7, n.f8, ⟨if k = 0 then t else n.f9.f0, if k = 1 then t else n.f9.f1, if k = 2 then t else n.f9.f2⟩, n.f10⟩
def Ref.newN (R : Ref) (c : Chg) : Node := if c.f0 = 0 then dirR (R.n c.f1).f0 c.f5 else if c.f0 = 1 then fileR (R.n c.f1).f0 c.f5 c.f7 (blocksR c.f7) else linkR (R.n c.f1).f0 c.f4
def Ref.doR (R : Ref) (c : Chg) : Ref :=
 if R.wrongE c ≠ 0 then R
 else if c.f0 = 2 then R.named c.f1 c.f3 c.f2
 else if c.f0 < 4 then (R.add (R.newN c) (if c.f0 = 0 then c.f1 else -1)).named c.f1 c.f3 R.N.length
 else if c.f0 = 4 then R.setN c.f2.toNat (modeN (R.n c.f2) c.f5)
 else if c.f0 = 5 then R.setN c.f2.toNat (ownN (R.n c.f2) c.f5 c.f6)
 else if c.f0 = 6 then R.setN c.f2.toNat (timeN (R.n c.f2) c.f5 c.f7)
 else if c.f0 = 7 then ⟨(R.device c.f5 (rd R.Above c.f2)).N, (R.device c.f5 (rd R.Above c.f2)).L, (R.device c.f5 (rd R.Above c.f2)).Cov.set c.f2.toNat (R.N.length : Int), (R.device c.f5 (rd R.Above c.f2)).Dead, (R.device c.f5 (rd R.Above c.f2)).Above, (R.device c.f5 (rd R.Above c.f2)).Firsts⟩
 else ⟨R.N, R.L, R.Cov, R.Dead.set c.f2.toNat true, R.Above, R.Firsts⟩
def Ref.doN (R : Ref) (c : Chg) : Int := if R.wrongE c = 0 ∧ (c.f0 = 0 ∨ c.f0 = 1 ∨ c.f0 = 3 ∨ c.f0 = 7) then R.N.length else 0
section
variable {R : Ref} {c : Chg}
theorem Ref.kind_of (h : R.wrongE c = 0) : 0 ≤ c.f0 ∧ c.f0 ≤ 8 := by
 unfold Ref.wrongE at h
 by_cases g : c.f0 < 0 ∨ 8 < c.f0
 ·rw [if_pos g] at h; omega
 ·omega
theorem Ref.rest_of (h : R.wrongE c = 0) : R.restE c = 0 ∧ (c.f0 < 4 → R.placeE c = 0) := by
 have hk := Ref.kind_of h
 unfold Ref.wrongE at h
 rw [if_neg (by omega)] at h
 by_cases g : c.f0 < 4 ∧ R.placeE c ≠ 0
 ·rw [if_pos g] at h; exact absurd h g.2
 ·rw [if_neg g] at h
  refine ⟨h, fun h4 => ?_⟩
  by_cases e : R.placeE c = 0
  ·exact e
  ·exact absurd ⟨h4, e⟩ g
theorem Ref.place_of (h : R.wrongE c = 0) (h4 : c.f0 < 4) : R.has c.f1 = true ∧ (R.n c.f1).f2 = 2 ∧ goodB c.f3 = true ∧ ¬ (R.L.any (fun x => x.f0 == c.f1 && x.f1.f0.toList == c.f3.toList) = true) := by
 have hp := (Ref.rest_of h).2 h4
 unfold Ref.placeE at hp
 by_cases g1 : R.has c.f1 = true
 ·rw [if_pos g1] at hp
  by_cases g2 : (R.n c.f1).f2 = 2
  ·rw [if_pos g2] at hp
   by_cases g3 : goodB c.f3 = true
   ·rw [if_pos g3] at hp
    by_cases g4 : R.L.any (fun x => x.f0 == c.f1 && x.f1.f0.toList == c.f3.toList) = true
    ·rw [if_pos g4] at hp; omega
    ·exact ⟨g1, g2, g3, g4⟩
   ·rw [if_neg g3] at hp; omega
  ·rw [if_neg g2] at hp; omega
 ·rw [if_neg g1] at hp; omega
theorem Ref.to_of (h : R.wrongE c = 0) (h4 : 4 ≤ c.f0 ∨ c.f0 = 2) : 0 ≤ c.f2 ∧ c.f2 < R.N.length := by
 have hr := (Ref.rest_of h).1
 unfold Ref.restE at hr
 cases g : R.has c.f2 with
 | true => exact of_decide_eq_true g
 | false => rw [if_pos ⟨h4, g⟩] at hr; omega
theorem Ref.at_of (h : R.wrongE c = 0) (h4 : c.f0 < 4) : 0 ≤ c.f1 ∧ c.f1 < R.N.length := of_decide_eq_true (Ref.place_of h h4).1
theorem Ref.own_of (h : R.wrongE c = 0) : (c.f0 = 1 → 0 ≤ c.f7) ∧ (c.f0 = 2 → (R.n c.f2).f2 ≠ 2 ∧ (R.n c.f2).f0 = (R.n c.f1).f0) ∧ (c.f0 = 6 → 0 ≤ c.f5 ∧ c.f5 ≤ 2) ∧ (c.f0 = 7 → (R.n c.f2).f2 = 2 ∧ rd R.Cov c.f2 < 0 ∧ R.Firsts.contains c.f2 = false) ∧ (c.f0 < 2 ∨ c.f0 = 3 ∨ c.f0 = 7 → R.N.length < 300)
  ∧ (c.f0 = 3 → ¬ (c.f4.data.toList.any (· == 0) = true ∨ c.f4.toList = [] ∨ (4096 : Int) < c.f4.size)) := by
 have hr := (Ref.rest_of h).1
 unfold Ref.restE at hr
 by_cases g1 : (4 ≤ c.f0 ∨ c.f0 = 2) ∧ R.has c.f2 = false
 ·rw [if_pos g1] at hr; omega
 rw [if_neg g1] at hr
 by_cases g2 : c.f0 = 7 ∧ (R.n c.f2).f2 ≠ 2
 ·rw [if_pos g2] at hr; omega
 rw [if_neg g2] at hr
 by_cases g3 : (c.f0 = 1 ∧ c.f7 < 0) ∨ (c.f0 = 2 ∧ ((R.n c.f2).f2 = 2 ∨ (R.n c.f2).f0 ≠ (R.n c.f1).f0)) ∨ (c.f0 = 6 ∧ (c.f5 < 0 ∨ 2 < c.f5)) ∨ (c.f0 = 7 ∧ (0 ≤ rd R.Cov c.f2 ∨ R.Firsts.contains c.f2 = true))
 ·rw [if_pos g3] at hr; omega
 rw [if_neg g3] at hr
 by_cases g4 : c.f0 = 3 ∧ (c.f4.data.toList.any (· == 0) = true ∨ c.f4.toList = [] ∨ (4096 : Int) < c.f4.size)
 ·rw [if_pos g4] at hr; omega
 rw [if_neg g4] at hr
 by_cases g5 : (c.f0 < 2 ∨ c.f0 = 3 ∨ c.f0 = 7) ∧ 300 ≤ R.N.length
 ·rw [if_pos g5] at hr; omega
 refine ⟨fun k => ?_, fun k => ⟨fun q => g3 (Or.inr (Or.inl ⟨k, Or.inl q⟩)), ?_⟩, fun k => ?_, fun k => ⟨?_, ?_, ?_⟩, fun k => ?_, fun k q => g4 ⟨k, q⟩⟩
 ·exact Int.not_lt.1 fun q => g3 (Or.inl ⟨k, q⟩)
 ·exact Decidable.byContradiction fun q => g3 (Or.inr (Or.inl ⟨k, Or.inr q⟩))
 ·exact ⟨Int.not_lt.1 fun q => g3 (Or.inr (Or.inr (Or.inl ⟨k, Or.inl q⟩))), Int.not_lt.1 fun q => g3 (Or.inr (Or.inr (Or.inl ⟨k, Or.inr q⟩)))⟩
 ·exact Decidable.byContradiction fun q => g2 ⟨k, q⟩
 ·exact Int.not_le.1 fun q => g3 (Or.inr (Or.inr (Or.inr ⟨k, Or.inl q⟩)))
 ·cases e : R.Firsts.contains c.f2 with
  | false => rfl
  | true => exact absurd (Or.inr (Or.inr (Or.inr ⟨k, Or.inr e⟩))) g3
 ·exact Nat.lt_of_not_le fun q => g5 ⟨k, q⟩
end
theorem refDo_calls (R : Ref) (c : Chg) (w : World) (vs : Array Value) (m : Nat) (ok : Nat → Prop) (h : RefV R w ok vs) (hO : R.Ok m) (hm : m ≤ 1000000) (s3 : c.f3.size ≤ 1000000) (s4 : c.f4.size ≤ 1000000) (s7 : c.f7 ≤ 9223372036854775807) :
  Calls Try.prog 19 #[.agg vs, .agg (encC c).toArray] w fun e w' => ∃ vs', e = .returned (.tuple #[.agg vs', .int .i64 (R.doN c), .int .i64 (R.wrongE c)]) ∧ RefV (R.doR c) w' (fun k => ok k ∨ w.heap.size ≤ k) vs' ∧ Below w.heap.size w w' := by
 have go_ : ∀ {x y : Int} {R2 : Ref}, R.doN c = x → R.wrongE c = y → R.doR c = R2 → (Calls Try.prog 19 #[.agg vs, .agg (encC c).toArray] w fun e w' => ∃ vs', e = .returned (.tuple #[.agg vs', .int .i64 x, .int .i64 y]) ∧ RefV R2 w' (fun k => ok k ∨ w.heap.size ≤ k) vs' ∧ Below w.heap.size w w') →
   Calls Try.prog 19 #[.agg vs, .agg (encC c).toArray] w fun e w' => ∃ vs', e = .returned (.tuple #[.agg vs', .int .i64 (R.doN c), .int .i64 (R.wrongE c)]) ∧ RefV (R.doR c) w' (fun k => ok k ∨ w.heap.size ≤ k) vs' ∧ Below w.heap.size w w' := by
  intro x y R2 e1 e2 e3 hc
  rw [e1, e2, e3]; exact hc
 by_cases hE : R.wrongE c = 0
 case neg =>
  exact go_ (by unfold Ref.doN; rw [if_neg (fun q => hE q.1)]) rfl (by unfold Ref.doR; rw [if_pos hE]) (do_wrong R c w vs m ok h hO hm s3 s4 hE)
 have hk := Ref.kind_of hE
 have ho := Ref.own_of hE
 have id0 : ¬ (c.f0 = 0 ∨ c.f0 = 1 ∨ c.f0 = 3 ∨ c.f0 = 7) → R.doN c = 0 := fun q => by unfold Ref.doN; rw [if_neg (fun r => q r.2)]
 have id1 : (c.f0 = 0 ∨ c.f0 = 1 ∨ c.f0 = 3 ∨ c.f0 = 7) → R.doN c = R.N.length := fun q => by unfold Ref.doN; rw [if_pos ⟨hE, q⟩]
 have hx : c.f0 = 0 ∨ c.f0 = 1 ∨ c.f0 = 2 ∨ c.f0 = 3 ∨ c.f0 = 4 ∨ c.f0 = 5 ∨ c.f0 = 6 ∨ c.f0 = 7 ∨ c.f0 = 8 := by omega
 rcases hx with k | k | k | k | k | k | k | k | k
 ·refine go_ (id1 (by omega)) hE ?_ (rdo_dir R c w vs m ok h hO hm s3 s4 k hE (Ref.at_of hE (by omega)))
  unfold Ref.doR Ref.newN; rw [if_neg (by omega), if_neg (by omega), if_pos (by omega), if_pos k, if_pos k]; rfl
 ·have h7 := ho.1 k
  by_cases hr : 0 < c.f7 % 4096
  ·refine go_ (id1 (by omega)) hE ?_ (rdo_file1 R c w vs m ok h hO hm s3 s4 k hE (Ref.at_of hE (by omega)) ⟨h7, s7⟩ hr)
   have hb : Go.RowKit.wrap64 (8 * (c.f7 / 4096 + 1)) = blocksR c.f7 := by
    unfold blocksR; rw [if_pos hr]; unfold Go.RowKit.wrap64; omega
   unfold Ref.doR Ref.newN; rw [if_neg (by omega), if_neg (by omega), if_pos (by omega), if_neg (by omega), if_pos k, if_neg (by omega), hb]; rfl
  ·refine go_ (id1 (by omega)) hE ?_ (rdo_file0 R c w vs m ok h hO hm s3 s4 k hE (Ref.at_of hE (by omega)) ⟨h7, s7⟩ (by omega))
   have hb : Go.RowKit.wrap64 (8 * (c.f7 / 4096)) = blocksR c.f7 := by
    unfold blocksR; rw [if_neg hr]; unfold Go.RowKit.wrap64; omega
   unfold Ref.doR Ref.newN; rw [if_neg (by omega), if_neg (by omega), if_pos (by omega), if_neg (by omega), if_pos k, if_neg (by omega), hb]; rfl
 ·refine go_ (id0 (by omega)) hE ?_ (rdo_name R c w vs m ok h hO hm s3 s4 k hE)
  unfold Ref.doR; rw [if_neg (by omega), if_pos k]; rfl
 ·refine go_ (id1 (by omega)) hE ?_ (rdo_link R c w vs m ok h hO hm s3 s4 k hE (Ref.at_of hE (by omega)))
  unfold Ref.doR Ref.newN; rw [if_neg (by omega), if_neg (by omega), if_pos (by omega), if_neg (by omega), if_neg (by omega), if_neg (by omega)]; rfl
 ·refine go_ (id0 (by omega)) hE ?_ (rdo_mode R c w vs m ok h hO hm s3 s4 k hE (Ref.to_of hE (by omega)))
  unfold Ref.doR; rw [if_neg (by omega), if_neg (by omega), if_neg (by omega), if_pos k]; rfl
 ·refine go_ (id0 (by omega)) hE ?_ (rdo_owner R c w vs m ok h hO hm s3 s4 k hE (Ref.to_of hE (by omega)))
  unfold Ref.doR; rw [if_neg (by omega), if_neg (by omega), if_neg (by omega), if_neg (by omega), if_pos k]; rfl
 ·have eF : R.doR c = R.setN c.f2.toNat (timeN (R.n c.f2) c.f5 c.f7) := by unfold Ref.doR; rw [if_neg (by omega), if_neg (by omega), if_neg (by omega), if_neg (by omega), if_neg (by omega), if_pos k]
  have h6 := ho.2.2.1 k
  have hj : c.f5 = 0 ∨ c.f5 = 1 ∨ c.f5 = 2 := by omega
  rcases hj with j | j | j
  ·exact go_ (id0 (by omega)) hE (by rw [eF, j]; rfl) (rdo_time0 R c w vs m ok h hO hm s3 s4 k hE (Ref.to_of hE (by omega)) j)
  ·exact go_ (id0 (by omega)) hE (by rw [eF, j]; rfl) (rdo_time1 R c w vs m ok h hO hm s3 s4 k hE (Ref.to_of hE (by omega)) j)
  ·exact go_ (id0 (by omega)) hE (by rw [eF, j]; rfl) (rdo_time2 R c w vs m ok h hO hm s3 s4 k hE (Ref.to_of hE (by omega)) j)
 ·refine go_ (id1 (by omega)) hE ?_ (rdo_mount R c w vs m ok h hO hm s3 s4 k hE (Ref.to_of hE (by omega)))
  unfold Ref.doR; rw [if_neg (by omega), if_neg (by omega), if_neg (by omega), if_neg (by omega), if_neg (by omega), if_neg (by omega), if_pos k]
 ·refine go_ (id0 (by omega)) hE ?_ (rdo_dead R c w vs m ok h hO hm s3 s4 k hE (Ref.to_of hE (by omega)))
  unfold Ref.doR; rw [if_neg (by omega), if_neg (by omega), if_neg (by omega), if_neg (by omega), if_neg (by omega), if_neg (by omega), if_neg (by omega)]
end Go.Proofs.Ytlfldoghomnbkaa.QVfs
