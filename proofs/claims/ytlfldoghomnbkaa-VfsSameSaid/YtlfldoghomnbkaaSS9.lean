import Derived.Test.YtlfldoghomnbkaaSS2
import Derived.Test.YtlfldoghomnbkaaSXVs3
import Derived.Test.YtlfldoghomnbkaaSXVs4
import Derived.Test.YtlfldoghomnbkaaSXVs5
import Derived.Test.YtlfldoghomnbkaaSXVs6
import Derived.Test.YtlfldoghomnbkaaSXVs7
import Derived.Test.YtlfldoghomnbkaaSXVs8
-- Texts of this seat, what the claim does not reach struck out by a program.
section
namespace Go.Proofs.Ytlfldoghomnbkaa.QVfs
open Go.RowKit Go.Proofs.YtlfldoghomnbkaaW.PrintWords Go.Proofs.YtlfldoghomnbkaaW.PrintLast Go.Proofs.YtlfldoghomnbkaaW.PrintMore
set_option linter.unusedVariables false
set_option linter.unusedSimpArgs false
def blocksR (n : Int) : Int := 8 * (n / 4096 + if 0 < n % 4096 then 1 else 0)
def Ref.named (R : Ref) (a : Int) (name : ByteArray) (id : Int) : Ref := ⟨R.N, R.L ++ [⟨a, ⟨name, id⟩⟩], R.Cov, R.Dead, R.Above, R.Firsts⟩
def Ref.setN (R : Ref) (i : Nat) (n : Node) : Ref := ⟨R.N.set i n, R.L, R.Cov, R.Dead, R.Above, R.Firsts⟩
def modeN (n : Node) (m : Int) : Node := ⟨n.f0, n.f1, n.f2, modeR m, n.f4, n.f5, n.f6, n.f7, n.f8, n.f9, n.f10⟩
def ownN (n : Node) (u v : Int) : Node := ⟨n.f0, n.f1, n.f2, n.f3, max u 0, max v 0, n.f6, n.f7, n.f8, n.f9, n.f10⟩
def timeN (n : Node) (k t : Int) : Node := ⟨n.f0, n.f1, n.f2, n.f3, n.f4, n.f5, n.f6, n.f7, n.f8, ⟨if k = 0 then t else n.f9.f0, if k = 1 then t else n.f9.f1, if k = 2 then t else n.f9.f2⟩, n.f10⟩
def Ref.newN (R : Ref) (c : Chg) : Node := if c.f0 = 0 then dirR (R.n c.f1).f0 c.f5 else if c.f0 = 1 then fileR (R.n c.f1).f0 c.f5 c.f7 (blocksR c.f7) else linkR (R.n c.f1).f0 c.f4
def Ref.doR (R : Ref) (c : Chg) : Ref :=
 if R.wrongE c ≠ 0 then R
 else if c.f0 = 2 then R.named c.f1 c.f3 c.f2
 else if c.f0 < 4 then (R.add (R.newN c) (if c.f0 = 0 then c.f1 else -1)).named c.f1 c.f3 R.N.length
 else if c.f0 = 4 then R.setN c.f2.toNat (modeN (R.n c.f2) c.f5)
 else if c.f0 = 5 then R.setN c.f2.toNat (ownN (R.n c.f2) c.f5 c.f6)
 else if c.f0 = 6 then R.setN c.f2.toNat (timeN (R.n c.f2) c.f5 c.f7)
 else if c.f0 = 7 then ⟨(R.device c.f5 (rd R.Above c.f2)).N, (R.device c.f5 (rd R.Above c.f2)).L, (R.device c.f5 (rd R.Above c.f2)).Cov.set c.f2.toNat (R.N.length : Int), (R.device c.f5 (rd R.Above c.f2)).Dead, (R.device c.f5 (rd R.Above c.f2)).Above, (R.device c.f5 (rd R.Above c.f2)).Firsts⟩
 else ⟨R.N, R.L, R.Cov, R.Dead.set c.f2.toNat true, R.Above, R.Firsts⟩
def Ref.doN (R : Ref) (c : Chg) : Int := if R.wrongE c = 0 ∧ (c.f0 = 0 ∨ c.f0 = 1 ∨ c.f0 = 3 ∨ c.f0 = 7) then R.N.length else 0
section
variable {R : Ref} {c : Chg}
theorem Ref.kind_of (h : R.wrongE c = 0) : 0 ≤ c.f0 ∧ c.f0 ≤ 8 := by
 unfold Ref.wrongE at h
 by_cases g : c.f0 < 0 ∨ 8 < c.f0
 ·rw [if_pos g] at h; omega
 ·omega
theorem Ref.rest_of (h : R.wrongE c = 0) : R.restE c = 0 ∧ (c.f0 < 4 → R.placeE c = 0) := by
 have hk := Ref.kind_of h
 unfold Ref.wrongE at h
 rw [if_neg (by omega)] at h
 by_cases g : c.f0 < 4 ∧ R.placeE c ≠ 0
 ·rw [if_pos g] at h; exact absurd h g.2
 ·rw [if_neg g] at h
  refine ⟨h, fun h4 => ?_⟩
  by_cases e : R.placeE c = 0
  ·exact e
  ·exact absurd ⟨h4, e⟩ g
theorem Ref.place_of (h : R.wrongE c = 0) (h4 : c.f0 < 4) : R.has c.f1 = true ∧ (R.n c.f1).f2 = 2 ∧ goodB c.f3 = true ∧ ¬ (R.L.any (fun x => x.f0 == c.f1 && x.f1.f0.toList == c.f3.toList) = true) := by
 have hp := (Ref.rest_of h).2 h4
 unfold Ref.placeE at hp
 by_cases g1 : R.has c.f1 = true
 ·rw [if_pos g1] at hp
  by_cases g2 : (R.n c.f1).f2 = 2
  ·rw [if_pos g2] at hp
   by_cases g3 : goodB c.f3 = true
   ·rw [if_pos g3] at hp
    by_cases g4 : R.L.any (fun x => x.f0 == c.f1 && x.f1.f0.toList == c.f3.toList) = true
    ·rw [if_pos g4] at hp; omega
    ·exact ⟨g1, g2, g3, g4⟩
   ·rw [if_neg g3] at hp; omega
  ·rw [if_neg g2] at hp; omega
 ·rw [if_neg g1] at hp; omega
theorem Ref.to_of (h : R.wrongE c = 0) (h4 : 4 ≤ c.f0 ∨ c.f0 = 2) : 0 ≤ c.f2 ∧ c.f2 < R.N.length := by
 have hr := (Ref.rest_of h).1
 unfold Ref.restE at hr
 cases g : R.has c.f2 with
 | true => exact of_decide_eq_true g
 | false => rw [if_pos ⟨h4, g⟩] at hr; omega
theorem Ref.at_of (h : R.wrongE c = 0) (h4 : c.f0 < 4) : 0 ≤ c.f1 ∧ c.f1 < R.N.length := of_decide_eq_true (Ref.place_of h h4).1
theorem Ref.own_of (h : R.wrongE c = 0) : (c.f0 = 1 → 0 ≤ c.f7) ∧ (c.f0 = 2 → (R.n c.f2).f2 ≠ 2 ∧ (R.n c.f2).f0 = (R.n c.f1).f0) ∧ (c.f0 = 6 → 0 ≤ c.f5 ∧ c.f5 ≤ 2) ∧ (c.f0 = 7 → (R.n c.f2).f2 = 2 ∧ rd R.Cov c.f2 < 0 ∧ R.Firsts.contains c.f2 = false) ∧ (c.f0 < 2 ∨ c.f0 = 3 ∨ c.f0 = 7 → R.N.length < 300)
  ∧ (c.f0 = 3 → ¬ (c.f4.data.toList.any (· == 0) = true ∨ c.f4.toList = [] ∨ (4096 : Int) < c.f4.size)) := by
 have hr := (Ref.rest_of h).1
 unfold Ref.restE at hr
 by_cases g1 : (4 ≤ c.f0 ∨ c.f0 = 2) ∧ R.has c.f2 = false
 ·rw [if_pos g1] at hr; omega
 rw [if_neg g1] at hr
 by_cases g2 : c.f0 = 7 ∧ (R.n c.f2).f2 ≠ 2
 ·rw [if_pos g2] at hr; omega
 rw [if_neg g2] at hr
 by_cases g3 : (c.f0 = 1 ∧ c.f7 < 0) ∨ (c.f0 = 2 ∧ ((R.n c.f2).f2 = 2 ∨ (R.n c.f2).f0 ≠ (R.n c.f1).f0)) ∨ (c.f0 = 6 ∧ (c.f5 < 0 ∨ 2 < c.f5)) ∨ (c.f0 = 7 ∧ (0 ≤ rd R.Cov c.f2 ∨ R.Firsts.contains c.f2 = true))
 ·rw [if_pos g3] at hr; omega
 rw [if_neg g3] at hr
 by_cases g4 : c.f0 = 3 ∧ (c.f4.data.toList.any (· == 0) = true ∨ c.f4.toList = [] ∨ (4096 : Int) < c.f4.size)
 ·rw [if_pos g4] at hr; omega
 rw [if_neg g4] at hr
 by_cases g5 : (c.f0 < 2 ∨ c.f0 = 3 ∨ c.f0 = 7) ∧ 300 ≤ R.N.length
 ·rw [if_pos g5] at hr; omega
 refine ⟨fun k => ?_, fun k => ⟨fun q => g3 (Or.inr (Or.inl ⟨k, Or.inl q⟩)), ?_⟩, fun k => ?_, fun k => ⟨?_, ?_, ?_⟩, fun k => ?_, fun k q => g4 ⟨k, q⟩⟩
 ·exact Int.not_lt.1 fun q => g3 (Or.inl ⟨k, q⟩)
 ·exact Decidable.byContradiction fun q => g3 (Or.inr (Or.inl ⟨k, Or.inr q⟩))
 ·exact ⟨Int.not_lt.1 fun q => g3 (Or.inr (Or.inr (Or.inl ⟨k, Or.inl q⟩))), Int.not_lt.1 fun q => g3 (Or.inr (Or.inr (Or.inl ⟨k, Or.inr q⟩)))⟩
 ·exact Decidable.byContradiction fun q => g2 ⟨k, q⟩
 ·exact Int.not_le.1 fun q => g3 (Or.inr (Or.inr (Or.inr ⟨k, Or.inl q⟩)))
 ·cases e : R.Firsts.contains c.f2 with
  | false => rfl
  | true => exact absurd (Or.inr (Or.inr (Or.inr ⟨k, Or.inr e⟩))) g3
 ·exact Nat.lt_of_not_le fun q => g5 ⟨k, q⟩
end
theorem refDo_calls (R : Ref) (c : Chg) (w : World) (vs : Array Value) (m : Nat) (ok : Nat → Prop) (h : RefV R w ok vs) (hO : R.Ok m) (hm : m ≤ 1000000) (s3 : c.f3.size ≤ 1000000) (s4 : c.f4.size ≤ 1000000) (s7 : c.f7 ≤ 9223372036854775807) :
  Calls Try.prog 19 #[.agg vs, .agg (encC c).toArray] w fun e w' => ∃ vs', e = .returned (.tuple #[.agg vs', .int .i64 (R.doN c), .int .i64 (R.wrongE c)]) ∧ RefV (R.doR c) w' (fun k => ok k ∨ w.heap.size ≤ k) vs' ∧ Below w.heap.size w w' := by
 have go_ : ∀ {x y : Int} {R2 : Ref}, R.doN c = x → R.wrongE c = y → R.doR c = R2 → (Calls Try.prog 19 #[.agg vs, .agg (encC c).toArray] w fun e w' => ∃ vs', e = .returned (.tuple #[.agg vs', .int .i64 x, .int .i64 y]) ∧ RefV R2 w' (fun k => ok k ∨ w.heap.size ≤ k) vs' ∧ Below w.heap.size w w') →
   Calls Try.prog 19 #[.agg vs, .agg (encC c).toArray] w fun e w' => ∃ vs', e = .returned (.tuple #[.agg vs', .int .i64 (R.doN c), .int .i64 (R.wrongE c)]) ∧ RefV (R.doR c) w' (fun k => ok k ∨ w.heap.size ≤ k) vs' ∧ Below w.heap.size w w' := by
  intro x y R2 e1 e2 e3 hc
  rw [e1, e2, e3]; exact hc
 by_cases hE : R.wrongE c = 0
 case neg =>
  exact go_ (by unfold Ref.doN; rw [if_neg (fun q => hE q.1)]) rfl (by unfold Ref.doR; rw [if_pos hE]) (do_wrong R c w vs m ok h hO hm s3 s4 hE)
 have hk := Ref.kind_of hE
 have ho := Ref.own_of hE
 have id0 : ¬ (c.f0 = 0 ∨ c.f0 = 1 ∨ c.f0 = 3 ∨ c.f0 = 7) → R.doN c = 0 := fun q => by unfold Ref.doN; rw [if_neg (fun r => q r.2)]
 have id1 : (c.f0 = 0 ∨ c.f0 = 1 ∨ c.f0 = 3 ∨ c.f0 = 7) → R.doN c = R.N.length := fun q => by unfold Ref.doN; rw [if_pos ⟨hE, q⟩]
 have hx : c.f0 = 0 ∨ c.f0 = 1 ∨ c.f0 = 2 ∨ c.f0 = 3 ∨ c.f0 = 4 ∨ c.f0 = 5 ∨ c.f0 = 6 ∨ c.f0 = 7 ∨ c.f0 = 8 := by omega
 rcases hx with k | k | k | k | k | k | k | k | k
 ·refine go_ (id1 (by omega)) hE ?_ (rdo_dir R c w vs m ok h hO hm s3 s4 k hE (Ref.at_of hE (by omega)))
  unfold Ref.doR Ref.newN; rw [if_neg (by omega), if_neg (by omega), if_pos (by omega), if_pos k, if_pos k]; rfl
 ·have h7 := ho.1 k
  by_cases hr : 0 < c.f7 % 4096
  ·refine go_ (id1 (by omega)) hE ?_ (rdo_file1 R c w vs m ok h hO hm s3 s4 k hE (Ref.at_of hE (by omega)) ⟨h7, s7⟩ hr)
   have hb : Go.RowKit.wrap64 (8 * (c.f7 / 4096 + 1)) = blocksR c.f7 := by
    unfold blocksR; rw [if_pos hr]; unfold Go.RowKit.wrap64; omega
   unfold Ref.doR Ref.newN; rw [if_neg (by omega), if_neg (by omega), if_pos (by omega), if_neg (by omega), if_pos k, if_neg (by omega), hb]; rfl
  ·refine go_ (id1 (by omega)) hE ?_ (rdo_file0 R c w vs m ok h hO hm s3 s4 k hE (Ref.at_of hE (by omega)) ⟨h7, s7⟩ (by omega))
   have hb : Go.RowKit.wrap64 (8 * (c.f7 / 4096)) = blocksR c.f7 := by
    unfold blocksR; rw [if_neg hr]; unfold Go.RowKit.wrap64; omega
   unfold Ref.doR Ref.newN; rw [if_neg (by omega), if_neg (by omega), if_pos (by omega), if_neg (by omega), if_pos k, if_neg (by omega), hb]; rfl
 ·refine go_ (id0 (by omega)) hE ?_ (rdo_name R c w vs m ok h hO hm s3 s4 k hE)
  unfold Ref.doR; rw [if_neg (by omega), if_pos k]; rfl
 ·refine go_ (id1 (by omega)) hE ?_ (rdo_link R c w vs m ok h hO hm s3 s4 k hE (Ref.at_of hE (by omega)))
  unfold Ref.doR Ref.newN; rw [if_neg (by omega), if_neg (by omega), if_pos (by omega), if_neg (by omega), if_neg (by omega), if_neg (by omega)]; rfl
 ·refine go_ (id0 (by omega)) hE ?_ (rdo_mode R c w vs m ok h hO hm s3 s4 k hE (Ref.to_of hE (by omega)))
  unfold Ref.doR; rw [if_neg (by omega), if_neg (by omega), if_neg (by omega), if_pos k]; rfl
 ·refine go_ (id0 (by omega)) hE ?_ (rdo_owner R c w vs m ok h hO hm s3 s4 k hE (Ref.to_of hE (by omega)))
  unfold Ref.doR; rw [if_neg (by omega), if_neg (by omega), if_neg (by omega), if_neg (by omega), if_pos k]; rfl
 ·have eF : R.doR c = R.setN c.f2.toNat (timeN (R.n c.f2) c.f5 c.f7) := by unfold Ref.doR; rw [if_neg (by omega), if_neg (by omega), if_neg (by omega), if_neg (by omega), if_neg (by omega), if_pos k]
  have h6 := ho.2.2.1 k
  have hj : c.f5 = 0 ∨ c.f5 = 1 ∨ c.f5 = 2 := by omega
  rcases hj with j | j | j
  ·exact go_ (id0 (by omega)) hE (by rw [eF, j]; rfl) (rdo_time0 R c w vs m ok h hO hm s3 s4 k hE (Ref.to_of hE (by omega)) j)
  ·exact go_ (id0 (by omega)) hE (by rw [eF, j]; rfl) (rdo_time1 R c w vs m ok h hO hm s3 s4 k hE (Ref.to_of hE (by omega)) j)
  ·exact go_ (id0 (by omega)) hE (by rw [eF, j]; rfl) (rdo_time2 R c w vs m ok h hO hm s3 s4 k hE (Ref.to_of hE (by omega)) j)
 ·refine go_ (id1 (by omega)) hE ?_ (rdo_mount R c w vs m ok h hO hm s3 s4 k hE (Ref.to_of hE (by omega)))
  unfold Ref.doR; rw [if_neg (by omega), if_neg (by omega), if_neg (by omega), if_neg (by omega), if_neg (by omega), if_neg (by omega), if_pos k]
 ·refine go_ (id0 (by omega)) hE ?_ (rdo_dead R c w vs m ok h hO hm s3 s4 k hE (Ref.to_of hE (by omega)))
  unfold Ref.doR; rw [if_neg (by omega), if_neg (by omega), if_neg (by omega), if_neg (by omega), if_neg (by omega), if_neg (by omega), if_neg (by omega)]
end Go.Proofs.Ytlfldoghomnbkaa.QVfs
end

section
namespace Go.Proofs.Ytlfldoghomnbkaa.QVfs
open Go.RowKit Go.Proofs.YtlfldoghomnbkaaW.PrintWords Go.Proofs.YtlfldoghomnbkaaW.PrintLast Go.Proofs.YtlfldoghomnbkaaW.PrintMore
set_option linter.unusedVariables false
set_option linter.unusedSimpArgs false
def Fs.run (l : List Chg) : Fs := l.foldl Fs.doF Fs.new
def Ref.run (l : List Chg) : Ref := l.foldl Ref.doR Ref.new
theorem Fs.run_snoc (l : List Chg) (c : Chg) : Fs.run (l ++ [c]) = (Fs.run l).doF c := by unfold Fs.run; rw [List.foldl_append]; rfl
theorem Ref.run_snoc (l : List Chg) (c : Chg) : Ref.run (l ++ [c]) = (Ref.run l).doR c := by unfold Ref.run; rw [List.foldl_append]; rfl
theorem take_snocC (l : List Chg) (i : Nat) (h : i < l.length) : l.take (i + 1) = l.take i ++ [l[i]] := List.take_succ_eq_append_getElem h
theorem Ref.Ok.more {R : Ref} {m m' : Nat} (h : R.Ok m) (hm : m ≤ m') : R.Ok m' := ⟨h.N, Nat.le_trans h.L hm, h.Cov, h.Dead, h.Above, h.Firsts⟩
theorem Ref.Ok.add {R : Ref} {m : Nat} (h : R.Ok m) (n : Node) (up : Int) (hl : R.N.length < 300) : (R.add n up).Ok m where
 N := by show (R.N ++ [_]).length ≤ 300; rw [List.length_append]; exact hl
 L := h.L
 Cov := by show (R.Cov ++ [_]).length = (R.N ++ [_]).length; rw [List.length_append, List.length_append, h.Cov]; rfl
 Dead := by show (R.Dead ++ [_]).length = (R.N ++ [_]).length; rw [List.length_append, List.length_append, h.Dead]; rfl
 Above := by show (R.Above ++ [_]).length = (R.N ++ [_]).length; rw [List.length_append, List.length_append, h.Above]; rfl
 Firsts := by show R.Firsts.length ≤ (R.N ++ [_]).length; rw [List.length_append]; exact Nat.le_trans h.Firsts (Nat.le_add_right _ _)
theorem Ref.Ok.device {R : Ref} {m : Nat} (h : R.Ok m) (mode up : Int) (hl : R.N.length < 300) : (R.device mode up).Ok m where
 N := by show (R.N ++ [_]).length ≤ 300; rw [List.length_append]; exact hl
 L := h.L
 Cov := by show (R.Cov ++ [_]).length = (R.N ++ [_]).length; rw [List.length_append, List.length_append, h.Cov]; rfl
 Dead := by show (R.Dead ++ [_]).length = (R.N ++ [_]).length; rw [List.length_append, List.length_append, h.Dead]; rfl
 Above := by show (R.Above ++ [_]).length = (R.N ++ [_]).length; rw [List.length_append, List.length_append, h.Above]; rfl
 Firsts := by show (R.Firsts ++ [_]).length ≤ (R.N ++ [_]).length; rw [List.length_append, List.length_append]; exact Nat.add_le_add_right h.Firsts _
theorem Ref.Ok.step {R : Ref} {m : Nat} (h : R.Ok m) (c : Chg) : (R.doR c).Ok (m + 1) := by
 unfold Ref.doR
 by_cases hE : R.wrongE c = 0
 case neg => rw [if_pos hE]; exact h.more (by omega)
 have ho := (Ref.own_of hE).2.2.2.2.1
 have nm : ∀ {R2 : Ref} (a : Int) (s : ByteArray) (i : Int), R2.Ok m → (R2.named a s i).Ok (m + 1) := fun {R2} a s i k => ⟨k.N, by show (R2.L ++ [_]).length ≤ m + 1; rw [List.length_append]; exact Nat.add_le_add_right k.L 1, k.Cov, k.Dead, k.Above, k.Firsts⟩
 have sn : ∀ (i : Nat) (n : Node), (R.setN i n).Ok (m + 1) := fun i n => ⟨by show (R.N.set i n).length ≤ 300; rw [List.length_set]; exact h.N, Nat.le_trans h.L (by omega), by show _ = (R.N.set i n).length; rw [List.length_set]; exact h.Cov, by show _ = (R.N.set i n).length; rw [List.length_set]; exact h.Dead, by show _ = (R.N.set i n).length; rw [List.length_set]; exact h.Above, by show _ ≤ (R.N.set i n).length; rw [List.length_set]; exact h.Firsts⟩
 rw [if_neg (by omega)]
 by_cases c2 : c.f0 = 2
 ·rw [if_pos c2]; exact nm _ _ _ h
 rw [if_neg c2]
 by_cases c4 : c.f0 < 4
 ·rw [if_pos c4]
  have hk := Ref.kind_of hE
  exact nm _ _ _ (h.add _ _ (ho (by omega)))
 rw [if_neg c4]
 by_cases k4 : c.f0 = 4
 ·rw [if_pos k4]; exact sn _ _
 rw [if_neg k4]
 by_cases k5 : c.f0 = 5
 ·rw [if_pos k5]; exact sn _ _
 rw [if_neg k5]
 by_cases k6 : c.f0 = 6
 ·rw [if_pos k6]; exact sn _ _
 rw [if_neg k6]
 by_cases k7 : c.f0 = 7
 ·rw [if_pos k7]
  have hd := h.device c.f5 (rd R.Above c.f2) (ho (by omega))
  exact ⟨hd.N, Nat.le_trans hd.L (by omega), by show (List.set _ _ _).length = _; rw [List.length_set]; exact hd.Cov, hd.Dead, hd.Above, hd.Firsts⟩
 rw [if_neg k7]
 exact ⟨h.N, Nat.le_trans h.L (by omega), h.Cov, by show (List.set _ _ _).length = _; rw [List.length_set]; exact h.Dead, h.Above, h.Firsts⟩
theorem Ref.new_ok : Ref.new.Ok 0 := ⟨by decide, by decide, rfl, rfl, rfl, by decide⟩
theorem run_ok (l : List Chg) : (Fs.run l).Ok l.length ∧ (Ref.run l).Ok l.length := by
 have key : ∀ n, ∀ l : List Chg, l.length = n → (Fs.run l).Ok n ∧ (Ref.run l).Ok n := by
  intro n
  induction n with
  | zero =>
   intro l hl
   obtain rfl := List.eq_nil_of_length_eq_zero hl
   exact ⟨Fs.new_ok, Ref.new_ok⟩
  | succ n ih =>
   intro l hl
   rcases List.eq_nil_or_concat l with rfl | ⟨l', c, rfl⟩
   ·simp at hl
   ·rw [List.concat_eq_append] at hl ⊢
    have hl' : l'.length = n := by simpa using hl
    obtain ⟨h1, h2⟩ := ih l' hl'
    rw [Fs.run_snoc, Ref.run_snoc]
    exact ⟨h1.step c, h2.step c⟩
 exact key _ l rfl
theorem FsAt.move {base g : Nat} {ok : Nat → Prop} {F : Fs} {w w' : World} (h : FsAt base g ok F w) (hm : ∀ k, ok k → w'.heap[k]? = w.heap[k]?) : FsAt base g ok F w' := by
 obtain ⟨v1, v2, v3, es, hF, hok⟩ := h
 exact ⟨v1, v2, v3, es, hF.move (fun k hk => hm k (hok k hk)), hok⟩
theorem RefV.step {R : Ref} {w w1 : World} {ok : Nat → Prop} {vs : Array Value} (h : RefV R w ok vs) (hm : ∀ k, ok k → k < w.heap.size → w1.heap[k]? = w.heap[k]?) : RefV R w1 ok vs := by
 obtain ⟨v0, v1, v2, v3, v4, v5, rfl, h0, h1, h2, h3, h4, h5⟩ := h
 exact ⟨_, _, _, _, _, _, rfl, Kd.V_step h0 hm, Kd.V_step h1 hm, Kd.V_step h2 hm, Kd.V_step h3 hm, Kd.V_step h4 hm, Kd.V_step h5 hm⟩
def Both (g : Nat) (F : Fs) (R : Ref) (W : World) (us : Array Value) (no : Nat → Prop) : Prop :=
 ∃ okF okR : Nat → Prop, FsAt g g okF F W ∧ RefV R W okR us ∧ (∀ k, okF k → g ≤ k ∧ k < W.heap.size ∧ ¬ no k) ∧ (∀ k, okR k → k < W.heap.size ∧ ¬ okF k ∧ ¬ no k) ∧ (∀ k, no k → k < W.heap.size)
section
variable {g : Nat} {F : Fs} {R : Ref} {W W' : World} {us : Array Value} {no no' : Nat → Prop}
theorem Both.below (h : Both g F R W us no) (hb : Below W.heap.size W W') : Both g F R W' us no := by
 obtain ⟨okF, okR, h1, h2, h3, h4, h5⟩ := h
 have hs := hb.size
 exact ⟨okF, okR, h1.below hb, h2.below hb, fun k hk => ⟨(h3 k hk).1, Nat.lt_of_lt_of_le (h3 k hk).2.1 hs, (h3 k hk).2.2⟩, fun k hk => ⟨Nat.lt_of_lt_of_le (h4 k hk).1 hs, (h4 k hk).2⟩, fun k hk => Nat.lt_of_lt_of_le (h5 k hk) hs⟩
theorem Both.more {w : World} (h : Both g F R w us no) (hb : Below w.heap.size w W) (hn : ∀ k, no' k → k < W.heap.size ∧ (no k ∨ w.heap.size ≤ k)) : Both g F R W us no' := by
 obtain ⟨okF, okR, h1, h2, h3, h4, h5⟩ := h
 have hs := hb.size
 have nn : ∀ k, k < w.heap.size → ¬ no k → ¬ no' k := fun k hk hnk q => (hn k q).2.elim hnk (fun r => by omega)
 exact ⟨okF, okR, h1.below hb, h2.below hb, fun k hk => ⟨(h3 k hk).1, Nat.lt_of_lt_of_le (h3 k hk).2.1 hs, nn k (h3 k hk).2.1 (h3 k hk).2.2⟩, fun k hk => ⟨Nat.lt_of_lt_of_le (h4 k hk).1 hs, (h4 k hk).2.1, nn k (h4 k hk).1 (h4 k hk).2.2⟩, fun k hk => (hn k hk).1⟩
theorem Both.less (h : Both g F R W us no) (hn : ∀ k, no' k → no k) : Both g F R W us no' := by
 obtain ⟨okF, okR, h1, h2, h3, h4, h5⟩ := h
 exact ⟨okF, okR, h1, h2, fun k hk => ⟨(h3 k hk).1, (h3 k hk).2.1, fun q => (h3 k hk).2.2 (hn k q)⟩, fun k hk => ⟨(h4 k hk).1, (h4 k hk).2.1, fun q => (h4 k hk).2.2 (hn k q)⟩, fun k hk => h5 k (hn k hk)⟩
theorem Both.set (h : Both g F R W us no) (b j : Nat) (u : Value) (hb : no b) : Both g F R (W.setCell ⟨b, j, none⟩ u) us no := by
 obtain ⟨okF, okR, h1, h2, h3, h4, h5⟩ := h
 have hs : (W.setCell ⟨b, j, none⟩ u).heap.size = W.heap.size := by simp
 have hne : ∀ k, ¬ no k → k ≠ b := fun k hk e => hk (e ▸ hb)
 refine ⟨okF, okR, h1.move (fun k hk => Below.heap_setCell W ⟨b, j, none⟩ u k (hne k (h3 k hk).2.2)), h2.set b j u (fun k hk => hne k (h4 k hk).2.2), ?_, ?_, ?_⟩
 ·rw [hs]; exact h3
 ·rw [hs]; exact h4
 ·rw [hs]; exact h5
theorem Both.form (h : Both g F R W us no) : ∃ A0 c0 A1 c1 A2 c2 A3 c3 A4 c4 A5 c5, us = #[.slice A0 R.N.length c0, .slice A1 R.L.length c1, .slice A2 R.Cov.length c2, .slice A3 R.Dead.length c3, .slice A4 R.Above.length c4, .slice A5 R.Firsts.length c5] := by
 obtain ⟨okF, okR, h1, h2, _⟩ := h
 exact h2.form
theorem Both.fs (h : Both g F R W us no) : FsAt g g (fun k => g ≤ k) F W := by
 obtain ⟨okF, okR, h1, h2, h3, _⟩ := h
 exact h1.weak (fun k hk => (h3 k hk).1)
end
abbrev BothPost (g : Nat) (R : Ref) (us : Array Value) (no : Nat → Prop) (w : World) (n x : Int) (F' : Fs) (e : Ending) (w' : World) : Prop :=
 e = .returned (.tuple #[.int .i64 n, .int .i64 x]) ∧ Both g F' R w' us no ∧ Below g w w' ∧ (∀ k, no k → w'.heap[k]? = w.heap[k]?) ∧ w.heap.size ≤ w'.heap.size
theorem Both.do_ {g : Nat} {F : Fs} {R : Ref} {w : World} {us : Array Value} {no : Nat → Prop} {m : Nat} (h : Both g F R w us no) (c : Chg) (hO : F.Ok m) (hm : m ≤ 100000) (hs : c.f3.size ≤ 1000000) (hN : c.f7 ≤ 9223372036854775807) (hg : g ≤ w.heap.size) :
  Calls Try.prog 12 #[.pointer (some ⟨g, 0, none⟩), .agg (encC c).toArray] w (BothPost g R us no w (F.doN c) (F.doE c) (F.doF c)) := by
 obtain ⟨okF, okR, h1, h2, h3, h4, h5⟩ := h
 refine (do_calls c hO hm h1 hs hN).mono ?_
 rintro e w' ⟨he, hF, hH⟩
 have hsz := hH.size
 have hFt := hF.tight
 have keep : ∀ k, ¬ okF k → k < w.heap.size → w'.heap[k]? = w.heap[k]? := fun k hk hl => hH.kept.2 k hl hk
 refine ⟨he, ⟨_, okR, hFt, h2.step (fun k hk hl => keep k (h4 k hk).2.1 hl), ?_, ?_, ?_⟩, hH.under (fun k hk q => by have := (h3 k q).1; omega) hg, fun k hk => keep k (fun q => (h3 k q).2.2 hk) (h5 k hk), hsz⟩
 ·rintro k ⟨hk | hk, hl⟩
  ·exact ⟨(h3 k hk).1, hl, (h3 k hk).2.2⟩
  ·exact ⟨by omega, hl, fun q => by have := h5 k q; omega⟩
 ·intro k hk
  obtain ⟨k1, k2, k3⟩ := h4 k hk
  exact ⟨by omega, fun q => q.1.elim k2 (fun r => by omega), k3⟩
 ·intro k hk
  have := h5 k hk
  omega
theorem Both.refDo {g : Nat} {F : Fs} {R : Ref} {w : World} {us : Array Value} {no : Nat → Prop} {m : Nat} (h : Both g F R w us no) (c : Chg) (hO : R.Ok m) (hm : m ≤ 1000000) (s3 : c.f3.size ≤ 1000000) (s4 : c.f4.size ≤ 1000000) (s7 : c.f7 ≤ 9223372036854775807) :
  Calls Try.prog 19 #[.agg us, .agg (encC c).toArray] w fun e w' => ∃ vs', e = .returned (.tuple #[.agg vs', .int .i64 (R.doN c), .int .i64 (R.wrongE c)]) ∧ Both g F (R.doR c) w' vs' no ∧ Below w.heap.size w w' := by
 obtain ⟨okF, okR, h1, h2, h3, h4, h5⟩ := h
 refine (refDo_calls R c w us m okR h2 hO hm s3 s4 s7).mono ?_
 rintro e w' ⟨vs', he, hR, hB⟩
 have hs := hB.size
 refine ⟨vs', he, ⟨okF, _, h1.below hB, hR.bound, fun k hk => ⟨(h3 k hk).1, by have := (h3 k hk).2.1; omega, (h3 k hk).2.2⟩, ?_, fun k hk => by have := h5 k hk; omega⟩, hB⟩
 rintro k ⟨hk | hk, hl⟩
 ·exact ⟨hl, (h4 k hk).2⟩
 ·exact ⟨hl, fun q => by have := (h3 k q).2.1; omega, fun q => by have := h5 k q; omega⟩
theorem six_set {W : World} {b : Nat} {us vs : Array Value} {v0 v1 v2 v3 v4 v5 : Value} (h : W.heap[b]? = some (.cells us TR (0, 0))) (hu : us.size = 6) (hv : vs = #[v0, v1, v2, v3, v4, v5]) :
  ((((((W.setCell ⟨b, 0, none⟩ v0).setCell ⟨b, 1, none⟩ v1).setCell ⟨b, 2, none⟩ v2).setCell ⟨b, 3, none⟩ v3).setCell ⟨b, 4, none⟩ v4).setCell ⟨b, 5, none⟩ v5).heap[b]? = some (.cells vs TR (0, 0)) := by
 obtain ⟨us⟩ := us
 match us, hu with
 | [u0, u1, u2, u3, u4, u5], _ =>
  subst hv
  exact blk_set (blk_set (blk_set (blk_set (blk_set (blk_set h 0 v0) 1 v1) 2 v2) 3 v3) 4 v4) 5 v5
def sixW (W : World) (b : Nat) (v0 v1 v2 v3 v4 v5 : Value) : World := (((((W.setCell ⟨b, 0, none⟩ v0).setCell ⟨b, 1, none⟩ v1).setCell ⟨b, 2, none⟩ v2).setCell ⟨b, 3, none⟩ v3).setCell ⟨b, 4, none⟩ v4).setCell ⟨b, 5, none⟩ v5
section
variable {g b : Nat} {F : Fs} {R : Ref} {W : World} {us : Array Value} {no : Nat → Prop} {v0 v1 v2 v3 v4 v5 : Value}
theorem Both.six (h : Both g F R W us no) (hb : no b) : Both g F R (sixW W b v0 v1 v2 v3 v4 v5) us no := (((((h.set b 0 v0 hb).set b 1 v1 hb).set b 2 v2 hb).set b 3 v3 hb).set b 4 v4 hb).set b 5 v5 hb
theorem six_far (k : Nat) (hk : k ≠ b) : (sixW W b v0 v1 v2 v3 v4 v5).heap[k]? = W.heap[k]? :=
 (Below.heap_setCell _ ⟨b, 5, none⟩ v5 k hk).trans ((Below.heap_setCell _ ⟨b, 4, none⟩ v4 k hk).trans ((Below.heap_setCell _ ⟨b, 3, none⟩ v3 k hk).trans ((Below.heap_setCell _ ⟨b, 2, none⟩ v2 k hk).trans ((Below.heap_setCell _ ⟨b, 1, none⟩ v1 k hk).trans (Below.heap_setCell _ ⟨b, 0, none⟩ v0 k hk)))))
theorem six_below {n : Nat} {w : World} (h : Below n w W) (hb : n ≤ b) : Below n w (sixW W b v0 v1 v2 v3 v4 v5) := (((((h.setCell hb v0).setCell hb v1).setCell hb v2).setCell hb v3).setCell hb v4).setCell hb v5
end
def MadeAt (H g b : Nat) (w : World) (l : List Chg) (i : Nat) (wr : World) (us : Array Value) : Prop :=
 Both g (Fs.run (l.take i)) (Ref.run (l.take i)) wr us (fun k => k = H ∨ k = b) ∧ wr.heap[b]? = some (.cells us TR (0, 0)) ∧ wr.heap[H]? = some (.cells zR TR (0, 0)) ∧ Below H w wr ∧ g ≤ wr.heap.size
def MadeJ (g H b : Nat) (F : Fs) (R : Ref) (wd : World) (s : Array Value × Value) (w' : World) : Prop :=
 ∃ gz, s.2 = .pointer (some ⟨gz, 0, none⟩) ∧ Both g F R w' s.1 (fun k => (k = H ∨ k = b) ∨ k = gz) ∧ w'.heap[gz]? = some (.cells zR TR (0, 0)) ∧ wd.heap.size ≤ gz ∧ Below wd.heap.size wd w'
end Go.Proofs.Ytlfldoghomnbkaa.QVfs
end
