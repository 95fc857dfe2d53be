import Derived.Test.YtlfldoghomnbkaaSXVf0
import Derived.Deep.QuietTactic
import Derived.BigQuiet
import Derived.Outline
-- Texts of this seat, what the claim does not reach struck out by a program.
namespace Go.Proofs.Ytlfldoghomnbkaa.QVfs
open Go.RowKit Go.Proofs.YtlfldoghomnbkaaW.PrintWords Go.Proofs.YtlfldoghomnbkaaW.PrintLast Go.Proofs.YtlfldoghomnbkaaW.PrintMore
set_option linter.unusedVariables false
set_option linter.unusedSimpArgs false
def FsR (g : Nat) (F : Fs) (w : World) : Prop := ∃ A0 c0 A1 c1 A2 c2, w.heap[g]? = some (.cells #[.slice A0 F.I.length c0, .slice A1 F.D.length c1, .slice A2 F.C.length c2] TF (0, 0)) ∧ F.I.length ≤ c0 ∧ F.D.length ≤ c1 ∧ Kd.C kItem w A0 F.I.length F.I ∧ Kd.C (Kd.int .i64) w A1 F.D.length F.D ∧ Kd.C (Kd.int .i64) w A2 F.C.length F.C
theorem FsR.below {g : Nat} {F : Fs} {w w' : World} (h : FsR g F w) (hb : Below w.heap.size w w') : FsR g F w' := by
 obtain ⟨A0, c0, A1, c1, A2, c2, h0, l0, l1, h1, h2, h3⟩ := h
 exact ⟨A0, c0, A1, c1, A2, c2, (hb.block g (blk_lt h0)).trans h0, l0, l1, Kd.C_below h1 hb, Kd.C_below h2 hb, Kd.C_below h3 hb⟩
theorem ints_of_own {w : World} {base : Nat} {v : Value} {l : List Int} (h : w.ownsRow base TZ 1 v l.length (nums .i64 l)) : ∃ A c, v = .slice A l.length c ∧ l.length ≤ c ∧ Kd.C (Kd.int .i64) w A l.length l := by
 have hr : (Kd.int .i64).R TZ w base (fun _ => True) v l := ⟨fun _ _ => trivial, nums .i64 l, by exact h, ⟨by simp [nums, Kd.int, Kd.scalar], fun j p hj => by
  show _ = [Value.int .i64 p]
  have : (nums .i64 l)[j]? = some (.int .i64 p) := by rw [nums, List.getElem?_map, hj]; rfl
  show ((nums .i64 l).drop (j * 1)).take 1 = _
  rw [Nat.mul_one, List.drop_eq_getElem_cons (List.getElem?_eq_some_iff.1 this).1]
  simp [List.getElem?_eq_some_iff.1 this |>.2]⟩⟩
 exact Kd.R_reads hr
theorem ents_of_own {w : World} {base : Nat} {v : Value} {l : List Entry} (h : w.ownsRow base TE 2 v l.length (encE l)) : ∃ A c, v = .slice A l.length c ∧ l.length ≤ c ∧ Kd.C k61 w A l.length l := by
 have hr : (k61).R TE w base (fun _ => True) v l := ⟨fun _ _ => trivial, encE l, by exact h, ⟨by exact encE_length l, fun j p hj => by
  have hlt := (List.getElem?_eq_some_iff.1 hj).1
  have he : ((encE l).drop (j * 2)).take 2 = [.string p.f0, .int .i64 p.f1] := by
   have hg : ∀ i, i < 2 → (encE l)[j * 2 + i]? = [Value.string p.f0, .int .i64 p.f1][i]? := fun i hi => by
    unfold encE
    rw [List.flatMap_def]
    exact flat_get 2 _ j i _ (fun r hr => by simp at hr; obtain ⟨a, _, rfl⟩ := hr; rfl) (by rw [List.getElem?_map, hj]; rfl) hi
   apply List.ext_getElem?
   intro i
   rw [List.getElem?_take, List.getElem?_drop]
   split
   ·rename_i hi; exact hg i hi
   ·rename_i hi; rw [List.getElem?_eq_none (by simpa using hi)]
  show Kd.M _ _ _ _ _ (((encE l).drop (j * 2)).take 2)
  rw [he]
  exact k61_mkM w base _ p⟩⟩
 exact Kd.R_reads hr
theorem FsW.read {base g : Nat} {F : Fs} {w : World} {v1 v2 v3 : Value} {es : List Value} (h : FsW base g F w v1 v2 v3 es) : FsR g F w := by
 obtain ⟨A1, c1, rfl, l1, h2⟩ := ints_of_own h.rD
 obtain ⟨A2, c2, rfl, l2, h3⟩ := ints_of_own h.rC
 have hI : ∃ A0 c0, v1 = .slice A0 F.I.length c0 ∧ F.I.length ≤ c0 ∧ Kd.C kItem w A0 F.I.length F.I := by
  have hl := rowsI_length F.I es h.len
  rcases h.rI.2 with ⟨rfl, h0⟩ | ⟨gi, cap, cur, rfl, _, hg, hn, hc, hs, ht⟩
  ·refine ⟨none, 0, by rw [h0], by omega, rfl, by rw [h0]; omega, fun hp => by omega⟩
  ·refine ⟨some ⟨gi, 0, none⟩, cap, rfl, hn, rfl, by unfold maxLen at hc; omega, fun hp => ⟨_, rfl, fun j p hj => ?_⟩⟩
   have hj' : j < es.length := by rw [← h.len]; exact (List.getElem?_eq_some_iff.1 hj).1
   have he : es[j]? = some es[j] := List.getElem?_eq_getElem hj'
   obtain ⟨A, c, hv, hle, hC⟩ := ents_of_own (h.rE j p _ hj he)
   refine ⟨encI p es[j], rfl, ?_, fun i u hu => ?_⟩
   ·unfold encI
    rw [hv]
    exact k74_mk w p hle hC
   ·have hi : i < 17 := (List.getElem?_eq_some_iff.1 hu).1
    have hk := (own_cell h.rI (j * 17 + i) (by rw [hl]; have := (List.getElem?_eq_some_iff.1 hj).1; omega)).1
    rw [rowsI_get F.I es j i p _ hj he hi] at hk
    rw [add_plain]
    exact hk.trans hu
 obtain ⟨A0, c0, rfl, l0, h1⟩ := hI
 exact ⟨A0, c0, A1, c1, A2, c2, h.blk, l0, l1, h1, h2, h3⟩
def Fs.has (F : Fs) (id : Int) : Bool := decide (0 ≤ id ∧ id < F.I.length)
theorem Fs.has_yes {F : Fs} {id : Int} (h0 : 0 ≤ id) (h1 : id < F.I.length) : F.has id = true := decide_eq_true ⟨h0, h1⟩
theorem Fs.has_no {F : Fs} {id : Int} (h : ¬ (0 ≤ id ∧ id < F.I.length)) : F.has id = false := decide_eq_false h
set_option maxHeartbeats 1000000 in
theorem is_calls (g : Nat) (F : Fs) (id : Int) (w : World) (h : FsR g F w) :
  Calls Try.prog 27 #[.pointer (some ⟨g, 0, none⟩), .int .i64 id] w fun e w' => e = .returned (.bool (F.has id)) ∧ w = w' := by
 obtain ⟨A0, c0, A1, c1, A2, c2, hb, l0, l1, h1, h2, h3⟩ := h
 have k0 : w.cell? ⟨g, 0, none⟩ = some (.slice A0 F.I.length c0) := (blk_cell hb 0).trans rfl
 clear hb h1 h2 h3
 by_cases g0 : 0 ≤ id
 ·by_cases g1 : id < F.I.length
  ·rw [Fs.has_yes g0 g1]
   have b1 : decide (id < (F.I.length : Int)) = true := decide_eq_true g1
   go_enter Try.func27, Try.ntmps27
   go_wp2
   go_ret
   exact ⟨rfl, rfl⟩
  ·rw [Fs.has_no (fun h => g1 h.2)]
   have b1 : decide (id < (F.I.length : Int)) = false := decide_eq_false g1
   go_enter Try.func27, Try.ntmps27
   go_wp2
   go_ret
   exact ⟨rfl, rfl⟩
 ·rw [Fs.has_no (fun h => g0 h.1)]
  have b0 : decide (id ≥ 0) = false := decide_eq_false g0
  have b1 : decide (0 ≤ id) = false := decide_eq_false g0
  go_enter Try.func27, Try.ntmps27
  go_wp2
  go_ret
  exact ⟨rfl, rfl⟩
def Fs.it (F : Fs) (id : Int) : Item := rd_T74 F.I id
def Fs.dirE (F : Fs) (id : Int) : Int := if F.has id = true then (if (F.it id).f0.f2 = 2 then 0 else 3) else 2
set_option maxHeartbeats 1000000 in
theorem dir_calls (g : Nat) (F : Fs) (id : Int) (w : World) (h : FsR g F w) :
  Calls Try.prog 43 #[.pointer (some ⟨g, 0, none⟩), .int .i64 id] w fun e w' => e = .returned (.int .i64 (F.dirE id)) ∧ w = w' := by
 have hR := Aside0.mk h
 obtain ⟨A0, c0, A1, c1, A2, c2, hb, l0, l1, h1, h2, h3⟩ := h
 have k0 : w.cell? ⟨g, 0, none⟩ = some (.slice A0 F.I.length c0) := (blk_cell hb 0).trans rfl
 clear hb h2 h3
 unfold Fs.dirE
 by_cases gg : 0 ≤ id ∧ id < F.I.length
 ·have hh := Fs.has_yes gg.1 gg.2
  obtain ⟨g0, g1⟩ := gg
  rw [hh, if_pos rfl]
  obtain ⟨ad, A13, c13, rfl, q⟩ := at_T74 h1 id g0 g1
  have q2 := q.2.2.1
  clear q h1
  have hh' := Aside0.mk hh
  clear hh
  show Calls _ _ _ _ fun e w' => e = .returned (.int .i64 (if (rd_T74 F.I id).f0.f2 = 2 then 0 else 3)) ∧ w = w'
  by_cases g2 : (rd_T74 F.I id).f0.f2 = 2
  ·rw [if_pos g2]
   have b2 : ((rd_T74 F.I id).f0.f2 != 2) = false := by rw [g2]; rfl
   clear g2
   go_enter Try.func43, Try.ntmps43
   go_wp2_with (go_at_call 27; refine (is_calls g F id _ hR.out).mono ?_; rw [hh'.out]; rintro e w' ⟨rfl, rfl⟩)
   go_ret
   exact ⟨rfl, rfl⟩
  ·rw [if_neg g2]
   have b2 : ((rd_T74 F.I id).f0.f2 != 2) = true := by rw [bne_iff_ne]; exact g2
   clear g2
   go_enter Try.func43, Try.ntmps43
   go_wp2_with (go_at_call 27; refine (is_calls g F id _ hR.out).mono ?_; rw [hh'.out]; rintro e w' ⟨rfl, rfl⟩)
   go_ret
   exact ⟨rfl, rfl⟩
 ·have hh := Fs.has_no gg
  rw [hh, if_neg (by simp)]
  have hh' := Aside0.mk hh
  clear hh h1 gg
  go_enter Try.func43, Try.ntmps43
  go_wp2_with (go_at_call 27; refine (is_calls g F id _ hR.out).mono ?_; rw [hh'.out]; rintro e w' ⟨rfl, rfl⟩)
  go_ret
  exact ⟨rfl, rfl⟩
end Go.Proofs.Ytlfldoghomnbkaa.QVfs
