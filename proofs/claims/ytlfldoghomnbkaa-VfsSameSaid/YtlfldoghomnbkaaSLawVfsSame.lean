import Derived.Test.YtlfldoghomnbkaaSU
import Derived.Test.YtlfldoghomnbkaaSXVtF
import Derived.Test.YtlfldoghomnbkaaSXVfC
import Derived.Test.YtlfldoghomnbkaaSXVf17
import Derived.Test.YtlfldoghomnbkaaSNAwake
import Derived.Test.YtlfldoghomnbkaaRows
import Derived.Test.YtlfldoghomnbkaaSVRow
import Derived.WalkKit
import Derived.ProofKit
import Derived.OpenShut
import Derived.ShutString
import Derived.ChangeOld
import Derived.Below
import Derived.SizedLaws
-- Texts of this seat, what the claim does not reach struck out by a program.
section
namespace Go.Proofs.Ytlfldoghomnbkaa.QVfs
open Go.RowKit Go.Proofs.YtlfldoghomnbkaaW.PrintWords Go.Proofs.YtlfldoghomnbkaaW.PrintLast Go.Proofs.YtlfldoghomnbkaaW.PrintMore
set_option linter.unusedVariables false
set_option linter.unusedSimpArgs false
theorem blk_on {W W' : World} {b : Nat} {o : Obj} (h : W.heap[b]? = some o) (hb : Below W.heap.size W W') : W'.heap[b]? = some o := (hb.block _ (blk_lt h)).trans h
theorem made_fs0 (A : Option Addr) (l : List Chg) (cp : Nat) (w : World) (hC : Kd.C k33 w A l.length l) (hc : l.length ≤ cp) (n : Int) (hn : n ≤ 400) (hf : fewB l n = true) (h7 : ∀ x ∈ l, x.f7 ≤ 9223372036854775807) :
  Calls Try.prog 16 #[.slice A l.length cp] w fun e w' => ∃ g S0 m0 d0 S1 m1 d1 S2 m2 d2 S3 m3 d3 S4 m4 d4 S5 m5 d5, e = .returned (.tuple #[.pointer (some ⟨g, 0, none⟩), .agg #[.slice S0 m0 d0, .slice S1 m1 d1, .slice S2 m2 d2, .slice S3 m3 d3, .slice S4 m4 d4, .slice S5 m5 d5]]) ∧ w.heap.size ≤ g ∧ FsAt g g (fun k => g ≤ k) (Fs.run l) w' ∧ Below w.heap.size w w' := by
 obtain ⟨h1, h2⟩ := few_small hf hn h7
 refine (made_calls A l cp w hC hc h1 (by omega)).mono ?_
 rintro e w' ⟨g, us, rfl, hg, hB, hb⟩
 obtain ⟨A0, c0, A1, c1, A2, c2, A3, c3, A4, c4, A5, c5, rfl⟩ := hB.form
 exact ⟨g, _, _, _, _, _, _, _, _, _, _, _, _, _, _, _, _, _, _, rfl, hg, hB.fs, hb⟩
theorem one_few (x : Chg) (n : Int) (W : World) (gb : Nat) (h : W.heap[gb]? = some (.cells #[.int .i64 x.f0, .int .i64 x.f1, .int .i64 x.f2, .string x.f3, .string x.f4, .int .i64 x.f5, .int .i64 x.f6, .int .i64 x.f7] TC (0, 0))) :
  Calls Try.prog 15 #[.slice (some ⟨gb, 0, none⟩) 1 1, .int .i64 n] W fun e w' => e = .returned (.bool (fewB [x] n)) ∧ Below W.heap.size W w' :=
 few_calls (some ⟨gb, 0, none⟩) 1 [x] n W (one_C h (k33_mk W x)) (Nat.le_refl _)
set_option maxHeartbeats 8000000 in
set_option maxRecDepth 100000 in
theorem same_not (A : Option Addr) (c : Nat) (l : List Chg) (x : Chg) (w : World) (hC : Kd.C k33 w A l.length l) (hc : l.length ≤ c) (hf : ¬ (fewB l 40 = true ∧ fewB [x] 1 = true)) :
  Calls Try.prog 7 #[.slice A l.length c, .agg #[.int .i64 x.f0, .int .i64 x.f1, .int .i64 x.f2, .string x.f3, .string x.f4, .int .i64 x.f5, .int .i64 x.f6, .int .i64 x.f7]] w fun e w' => e = .returned (.bool true) ∧ Below w.heap.size w w' := by
 have cF := fun W (hb : Below w.heap.size w W) => few_calls A c l 40 W (Kd.C_below hC hb) hc
 have cG := fun W gb h => one_few x 1 W gb h
 obtain ⟨t, ht⟩ : ∃ t, t = fewB l 40 := ⟨_, rfl⟩
 obtain ⟨u, hu⟩ : ∃ u, u = fewB [x] 1 := ⟨_, rfl⟩
 rw [← ht, ← hu] at hf
 rw [← ht] at cF
 rw [← hu] at cG
 have HF := Aside0.mk cF
 have HG := Aside0.mk cG
 clear cF cG hC ht hu
 obtain ⟨x0, x1, x2, x3, x4, x5, x6, x7⟩ := x
 simp only at HG ⊢
 obtain ⟨b, hb⟩ : ∃ b, b = w.heap.size := ⟨_, rfl⟩
 obtain ⟨W0, hW0⟩ : ∃ W0, W0 = w.alloc (.cells #[.int .i64 x0, .int .i64 x1, .int .i64 x2, .string x3, .string x4, .int .i64 x5, .int .i64 x6, .int .i64 x7] TC) := ⟨_, rfl⟩
 have HB0 : Aside0 (Below w.heap.size w W0) := ⟨by rw [hW0]; exact below_all _⟩
 have HA0 : Aside0 (W0.heap[b]? = some (.cells #[.int .i64 x0, .int .i64 x1, .int .i64 x2, .string x3, .string x4, .int .i64 x5, .int .i64 x6, .int .i64 x7] TC (0, 0))) := ⟨by rw [hW0, hb]; exact heap_alloc_new w _⟩
 go_enter Try.func7, Try.ntmps7
 go_wp2_with fail
 rw [← hW0, ← hb]
 clear hW0 hb
 refine (awake_calls W0).mono ?_
 rintro e w1 ⟨rfl, h1⟩
 have HB1 := Aside0.mk (below_step HB0.out h1)
 have HA1 := Aside0.mk (blk_on HA0.out h1)
 clear h1 HB0 HA0
 go_wp2_with fail
 refine (HF.out w1 HB1.out).mono ?_
 rintro e w2 ⟨rfl, h2⟩
 have HB2 := Aside0.mk (below_step HB1.out h2)
 have HA2 := Aside0.mk (blk_on HA1.out h2)
 clear h2 HB1 HA1
 obtain ⟨q0, q1, q2, q3, q4, q5, q6, q7⟩ := box_cells HA2.out
 cases t with
 | false =>
  go_wp2_with fail
  refine (awake_calls w2).mono ?_
  rintro e w3 ⟨rfl, h3⟩
  have HB3 := Aside0.mk (below_step HB2.out h3)
  clear h3
  go_wp2
  go_ret
  exact ⟨rfl, HB3.out⟩
 | true =>
  obtain rfl : u = false := by
   cases u with
   | false => rfl
   | true => exact absurd ⟨rfl, rfl⟩ hf
  go_wp2_with fail
  obtain ⟨w3, hw3⟩ : ∃ w3, w3 = w2.alloc (.cells #[.int .i64 x0, .int .i64 x1, .int .i64 x2, .string x3, .string x4, .int .i64 x5, .int .i64 x6, .int .i64 x7] TC) := ⟨_, rfl⟩
  rw [← hw3]
  have h3 : Below w2.heap.size w2 w3 := by rw [hw3]; exact below_all _
  have hn : w3.heap[w2.heap.size]? = some (.cells #[.int .i64 x0, .int .i64 x1, .int .i64 x2, .string x3, .string x4, .int .i64 x5, .int .i64 x6, .int .i64 x7] TC (0, 0)) := by rw [hw3]; exact heap_alloc_new w2 _
  have HB3 := Aside0.mk (below_step HB2.out h3)
  clear h3 hw3
  refine (HG.out w3 _ hn).mono ?_
  rintro e w4 ⟨rfl, h4⟩
  have HB4 := Aside0.mk (below_step HB3.out h4)
  clear h4 hn
  go_wp2_with fail
  refine (awake_calls w4).mono ?_
  rintro e w5 ⟨rfl, h5⟩
  have HB5 := Aside0.mk (below_step HB4.out h5)
  clear h5
  go_wp2
  go_ret
  exact ⟨rfl, HB5.out⟩
end Go.Proofs.Ytlfldoghomnbkaa.QVfs
end

section
namespace Go.Proofs.Ytlfldoghomnbkaa.QVfs
open Go.RowKit Go.Proofs.YtlfldoghomnbkaaW.PrintWords Go.Proofs.YtlfldoghomnbkaaW.PrintLast Go.Proofs.YtlfldoghomnbkaaW.PrintMore
set_option linter.unusedVariables false
set_option linter.unusedSimpArgs false
set_option maxHeartbeats 8000000 in
set_option maxRecDepth 100000 in
theorem same_true (A : Option Addr) (c : Nat) (l : List Chg) (x : Chg) (w : World) (hC : Kd.C k33 w A l.length l) (hc : l.length ≤ c) (hf : fewB l 40 = true) (hx : fewB [x] 1 = true) (h7 : ∀ y ∈ l, y.f7 ≤ 9223372036854775807) (h7x : x.f7 ≤ 9223372036854775807) :
  Calls Try.prog 7 #[.slice A l.length c, .agg #[.int .i64 x.f0, .int .i64 x.f1, .int .i64 x.f2, .string x.f3, .string x.f4, .int .i64 x.f5, .int .i64 x.f6, .int .i64 x.f7]] w fun e w' => e = .returned (.bool true) ∧ Below w.heap.size w w' := by
 have cF := fun W (hb : Below w.heap.size w W) => few_calls A c l 40 W (Kd.C_below hC hb) hc
 have cG := fun W gb h => one_few x 1 W gb h
 rw [hf] at cF
 rw [hx] at cG
 have HF := Aside0.mk cF
 have HG := Aside0.mk cG
 have cM := fun W (hb : Below w.heap.size w W) => made_fs0 A l c W (Kd.C_below hC hb) hc 40 (by decide) hf h7
 have hsx := (few_small (l := [x]) hx (by decide) (fun y hy => by rw [List.mem_singleton.1 hy]; exact h7x)).1 x (by simp)
 have hok := (run_ok l).1
 have hl40 := (few_small hf (by decide) h7).2
 obtain ⟨F, hFe⟩ : ∃ F, F = Fs.run l := ⟨_, rfl⟩
 rw [← hFe] at hok
 simp only [← hFe] at cM
 have HM := Aside0.mk cM
 have HOK : Aside0 (F.Ok l.length) := ⟨hok⟩
 have HL4 : Aside0 (l.length ≤ 40) := ⟨by omega⟩
 have HSX := Aside0.mk hsx
 have HDO : Aside0 (∀ (g : Nat) (W : World), FsAt g g (fun k => g ≤ k) F W → Calls Try.prog 12 #[.pointer (some ⟨g, 0, none⟩), .agg (encC x).toArray] W (DoPost g g (fun k => g ≤ k) W (F.doN x) (F.doE x) (F.doF x))) := ⟨fun g W h => do_calls x hok (by omega) h hsx.1 hsx.2.2⟩
 have HMO : Aside0 (F.doE x = 0 → x.f0 < 4 ∨ x.f0 = 7 → F.sameB (F.doF x) = false) := ⟨Fs.sameB_more⟩
 have HNO : Aside0 (F.doE x ≠ 0 → F.sameB (F.doF x) = true) := ⟨fun h => by
  have : F.doF x = F := by unfold Fs.doF; rw [if_pos h]
  rw [this]; exact Fs.sameB_refl F⟩
 have HKD : Aside0 (F.doE x = 0 → 0 ≤ x.f0 ∧ x.f0 ≤ 8) := ⟨fun h => by
  unfold Fs.doE at h
  by_cases nb : x.f0 < 0 ∨ 8 < x.f0
  ·rw [if_pos nb] at h; cases h
  ·omega⟩
 generalize F.doN x = dN at HDO
 generalize F.doE x = dE at HDO HMO HNO HKD
 generalize F.doF x = G at HDO HMO HNO
 unfold encC at HDO
 clear cF cG cM hC hf hx h7 h7x hsx hok hl40 hFe
 obtain ⟨x0, x1, x2, x3, x4, x5, x6, x7⟩ := x
 simp only at HG HDO HMO HKD ⊢
 obtain ⟨b, hb⟩ : ∃ b, b = w.heap.size := ⟨_, rfl⟩
 obtain ⟨W0, hW0⟩ : ∃ W0, W0 = w.alloc (.cells #[.int .i64 x0, .int .i64 x1, .int .i64 x2, .string x3, .string x4, .int .i64 x5, .int .i64 x6, .int .i64 x7] TC) := ⟨_, rfl⟩
 have HB0 : Aside0 (Below w.heap.size w W0) := ⟨by rw [hW0]; exact below_all _⟩
 have HA0 : Aside0 (W0.heap[b]? = some (.cells #[.int .i64 x0, .int .i64 x1, .int .i64 x2, .string x3, .string x4, .int .i64 x5, .int .i64 x6, .int .i64 x7] TC (0, 0))) := ⟨by rw [hW0, hb]; exact heap_alloc_new w _⟩
 go_enter Try.func7, Try.ntmps7
 go_wp2_with fail
 rw [← hW0, ← hb]
 clear hW0 hb
 refine (awake_calls W0).mono ?_
 rintro e w1 ⟨rfl, h1⟩
 have HB1 := Aside0.mk (below_step HB0.out h1)
 have HA1 := Aside0.mk (blk_on HA0.out h1)
 clear h1 HB0 HA0
 go_wp2_with fail
 refine (HF.out w1 HB1.out).mono ?_
 rintro e w2 ⟨rfl, h2⟩
 have HB2 := Aside0.mk (below_step HB1.out h2)
 have HA2 := Aside0.mk (blk_on HA1.out h2)
 clear h2 HB1 HA1
 obtain ⟨q0, q1, q2, q3, q4, q5, q6, q7⟩ := box_cells HA2.out
 go_wp2_with fail
 obtain ⟨w3, hw3⟩ : ∃ w3, w3 = w2.alloc (.cells #[.int .i64 x0, .int .i64 x1, .int .i64 x2, .string x3, .string x4, .int .i64 x5, .int .i64 x6, .int .i64 x7] TC) := ⟨_, rfl⟩
 rw [← hw3]
 have h3 : Below w2.heap.size w2 w3 := by rw [hw3]; exact below_all _
 have hn : w3.heap[w2.heap.size]? = some (.cells #[.int .i64 x0, .int .i64 x1, .int .i64 x2, .string x3, .string x4, .int .i64 x5, .int .i64 x6, .int .i64 x7] TC (0, 0)) := by rw [hw3]; exact heap_alloc_new w2 _
 have HB3 := Aside0.mk (below_step HB2.out h3)
 have HA3 := Aside0.mk (blk_on HA2.out h3)
 clear h3 hw3 q0 q1 q2 q3 q4 q5 q6 q7
 refine (HG.out w3 _ hn).mono ?_
 rintro e w4 ⟨rfl, h4⟩
 have HB4 := Aside0.mk (below_step HB3.out h4)
 have HA4 := Aside0.mk (blk_on HA3.out h4)
 clear h4 hn HB2 HB3 HA2 HA3
 go_wp2_with fail
 refine (HM.out w4 HB4.out).mono ?_
 rintro e w5 ⟨g1, S0, m0, d0, S1, m1, d1, S2, m2, d2, S3, m3, d3, S4, m4, d4, S5, m5, d5, rfl, hg, hF5, h5⟩
 have HB5 := Aside0.mk (below_step HB4.out h5)
 have HA5 := Aside0.mk (blk_on HA4.out h5)
 have HF5 := Aside0.mk hF5
 clear h5 HB4 HA4 hF5 hg
 go_upto_region 4 with fail
 obtain ⟨w6, hw6⟩ : ∃ w6, w6 = w5.alloc (.cells #[.slice S0 m0 d0, .slice S1 m1 d1, .slice S2 m2 d2, .slice S3 m3 d3, .slice S4 m4 d4, .slice S5 m5 d5] TR) := ⟨_, rfl⟩
 rw [← hw6]
 have h6 : Below w5.heap.size w5 w6 := by rw [hw6]; exact below_all _
 have HB6 := Aside0.mk (below_step HB5.out h6)
 have HA6 := Aside0.mk (blk_on HA5.out h6)
 have HF6 := Aside0.mk (HF5.out.below h6)
 clear h6 hw6 HB5 HA5 HF5
 go_wp2_with fail
 refine (HM.out w6 HB6.out).mono ?_
 rintro e w7 ⟨g2, T0, n0, e0, T1, n1, e1, T2, n2, e2, T3, n3, e3, T4, n4, e4, T5, n5, e5, rfl, hg, hF7, h7⟩
 have HB7 := Aside0.mk (below_step HB6.out h7)
 have HA7 := Aside0.mk (blk_on HA6.out h7)
 have HF7 : Aside0 (FsAt g1 g1 (fun k => k < g2) F w7) := ⟨(FsAt.weak HF6.out.tight (fun k hk => by have h1 : k < w6.heap.size := hk.2; show k < g2; omega)).below h7⟩
 have HG7 := Aside0.mk hF7
 have HW : Aside0 (w.heap.size ≤ g2) := ⟨by have := HB6.out.size; omega⟩
 have HBG : Aside0 (b < g2) := ⟨by have := blk_lt HA6.out; omega⟩
 clear h7 HB6 HA6 HF6 hF7 hg
 go_upto_region 5 with fail
 obtain ⟨w8, hw8⟩ : ∃ w8, w8 = w7.alloc (.cells #[.slice T0 n0 e0, .slice T1 n1 e1, .slice T2 n2 e2, .slice T3 n3 e3, .slice T4 n4 e4, .slice T5 n5 e5] TR) := ⟨_, rfl⟩
 rw [← hw8]
 have h8 : Below w7.heap.size w7 w8 := by rw [hw8]; exact below_all _
 have HB8 := Aside0.mk (below_step HB7.out h8)
 have HA8 := Aside0.mk (blk_on HA7.out h8)
 have HF8 := Aside0.mk (HF7.out.below h8)
 have HG8 := Aside0.mk (HG7.out.below h8)
 have HG2 : Aside0 (g2 < w8.heap.size) := ⟨by obtain ⟨_, _, _, _, hF, _⟩ := HG8.out; exact blk_lt hF.blk⟩
 clear h8 hw8 HB7 HA7 HF7 HG7
 have HEN : Aside0 (∀ i, (F.at i).f1.length ≤ 100000) := ⟨fun i => Nat.le_trans (HOK.out.at_ent i) (by have := HL4.out; omega)⟩
 have hI := HOK.out.I
 go_upto_region 6 with fail
 go_wp2
 go_loopw [9] (fun v9 wr => ∃ k : Nat, v9 = .int .i64 ((k : Int) - 1) ∧ k ≤ F.I.length + 2 ∧ Aside0 (FsAt g1 g1 (fun k => k < g2) F wr) ∧ Aside0 (FsAt g2 g2 (fun k => g2 ≤ k ∧ k < w8.heap.size) F wr) ∧ Aside0 (Below w8.heap.size w8 wr)) (fun v9 _ => F.I.length + 2 - (intOf v9 + 1).toNat)
 case atStart => exact ⟨0, rfl, by omega, HF8, ⟨FsAt.weak HG8.out.tight (fun k hk => hk)⟩, ⟨Below.refl _ _⟩⟩
 case round =>
  obtain ⟨k, rfl, hk, HFr, HGr, HBr⟩ := hrel
  go_wp2_with fail
  refine (count_calls g1 F wr HFr.out.read).mono ?_
  rintro e w' ⟨rfl, hww⟩
  obtain rfl : wr = w' := hww
  by_cases hlt : k ≤ F.I.length + 1
  ·have dk : decide ((k : Int) - 1 ≤ (F.I.length : Int)) = true := decide_eq_true (by omega)
   have hw : wrap64 ((k : Int) - 1 + 1) = (k : Int) := by unfold wrap64; omega
   have HM1 : Aside0 ((intOf (.int .i64 (k : Int)) + 1).toNat = k + 1) := ⟨by show ((k : Int) + 1).toNat = k + 1; omega⟩
   have HM4 : Aside0 (Value.int .i64 (k : Int) = .int .i64 (((k + 1 : Nat) : Int) - 1)) := ⟨by congr 1; omega⟩
   have HM2 : Aside0 ((intOf (.int .i64 ((k : Int) - 1)) + 1).toNat = k) := ⟨by show ((k : Int) - 1 + 1).toNat = k; omega⟩
   have HM3 : Aside0 (F.I.length + 2 - (k + 1) < F.I.length + 2 - k) := ⟨by omega⟩
   go_wp2_with fail
   refine (node_calls g1 F ((k : Int) - 1) wr HFr.out.read).mono ?_
   rintro e w9 ⟨rfl, h9⟩
   have HF9 := Aside0.mk (HFr.out.below h9)
   have HG9 := Aside0.mk (HGr.out.below h9)
   have HB9 := Aside0.mk (below_step HBr.out h9)
   clear h9
   go_wp2_with fail
   refine (list_calls g1 g1 _ F ((k : Int) - 1) w9 HF9.out HEN.out).mono ?_
   rintro e w10 ⟨v, rfl, hv, h10⟩
   have HF10 := Aside0.mk (HF9.out.below h10)
   have HG10 := Aside0.mk (HG9.out.below h10)
   have HB10 := Aside0.mk (below_step HB9.out h10)
   have HS9 : Aside0 (w8.heap.size ≤ w9.heap.size) := ⟨HB9.out.size⟩
   obtain ⟨n, hn⟩ : ∃ n, n = (F.listL ((k : Int) - 1)).length := ⟨_, rfl⟩
   have hnm : n ≤ 100000 := by
    rw [hn]; unfold Fs.listL
    split
    ·split
     ·exact Nat.zero_le _
     ·by_cases h0 : 0 ≤ (k : Int) - 1
      ·rw [Fs.it_nat F h0]; exact HEN.out _
      ·have : F.it ((k : Int) - 1) = F.at ((k : Int) - 1).toNat := by
        unfold Fs.it Fs.at rd_T74 zI; rfl
       rw [this]; exact HEN.out _
    ·exact Nat.zero_le _
   rw [← hn] at hv
   have HV : Aside0 (∃ xs, w10.ownsRow w9.heap.size TE 2 v n xs) := ⟨⟨_, hv⟩⟩
   obtain ⟨Ax, cx, rfl⟩ : ∃ A c, v = .slice A n c := by
    rcases hv.2 with ⟨rfl, h0⟩ | ⟨g', cap', cur, rfl, _⟩
    ·exact ⟨none, 0, by rw [h0]⟩
    ·exact ⟨_, _, rfl⟩
   clear hn hv h10 HF9 HG9 HB9 HFr HGr HBr
   go_upto_region 11 with fail
   go_wp2
   go_loopw [12] (fun v12 wi => ∃ j : Nat, v12 = .int .i64 j ∧ j ≤ n ∧ Aside0 (FsAt g1 g1 (fun k => k < g2) F wi) ∧ Aside0 (FsAt g2 g2 (fun k => g2 ≤ k ∧ k < w8.heap.size) F wi) ∧ Aside0 (Below w8.heap.size w8 wi) ∧ Aside0 (∃ xs, wi.ownsRow w9.heap.size TE 2 (.slice Ax n cx) n xs)) (fun v12 _ => n - (intOf v12).toNat)
   case atStart => exact ⟨0, rfl, Nat.zero_le _, HF10, HG10, HB10, HV⟩
   case round =>
    obtain ⟨j, rfl, hj, HFi, HGi, HBi, HVi⟩ := hrel
    clear HF10 HG10 HB10 HV
    by_cases hjn : j < n
    ·have n1 : (j : Int) < (n : Int) := by omega
     have n0 : (0 : Int) ≤ (j : Int) := by omega
     have hwj : wrap64 ((j : Int) + 1) = (j : Int) + 1 := by unfold wrap64; omega
     have HN1 : Aside0 ((intOf (.int .i64 ((j : Int) + 1))).toNat = j + 1) := ⟨by show ((j : Int) + 1).toNat = j + 1; omega⟩
     have HN2 : Aside0 ((intOf (.int .i64 (j : Int))).toNat = j) := ⟨rfl⟩
     have HN3 : Aside0 (n - (j + 1) < n - j) := ⟨by omega⟩
     obtain ⟨xs, hxs⟩ := HVi.out
     obtain ⟨gx, cap, he, hgb, hgl⟩ := hxs.form (by omega)
     injection he with hA _ hcap
     subst hA hcap
     have hxl := hxs.1
     obtain ⟨y0, z0⟩ := own_cell hxs (j * 2) (by omega)
     obtain ⟨y1, z1⟩ := own_cell hxs (j * 2 + 1) (by omega)
     obtain ⟨u0, q0⟩ : ∃ u, wr.cell? ⟨gx, j * 2, none⟩ = some u := ⟨_, y0.trans (List.getElem?_eq_getElem (show j * 2 < xs.length by omega))⟩
     obtain ⟨u1, q1⟩ : ∃ u, wr.cell? ⟨gx, j * 2 + 1, none⟩ = some u := ⟨_, y1.trans (List.getElem?_eq_getElem (show j * 2 + 1 < xs.length by omega))⟩
     clear y0 y1
     have hne1 : ∀ k, k < g2 → k ≠ gx := fun k hk => by have := HG2.out; have := HS9.out; omega
     have hne2 : ∀ k, (g2 ≤ k ∧ k < w8.heap.size) → k ≠ gx := fun k hk => by have := HS9.out; omega
     have HFn : Aside0 (FsAt g1 g1 (fun k => k < g2) F ((wr.setCell ⟨gx, j * 2, none⟩ (.string ⟨#[]⟩)).setCell ⟨gx, j * 2 + 1, none⟩ (.int .i64 0))) := ⟨HFi.out.move (fun k hk => (setCell_far _ gx _ _ k (hne1 k hk)).trans (setCell_far _ gx _ _ k (hne1 k hk)))⟩
     have HGn : Aside0 (FsAt g2 g2 (fun k => g2 ≤ k ∧ k < w8.heap.size) F ((wr.setCell ⟨gx, j * 2, none⟩ (.string ⟨#[]⟩)).setCell ⟨gx, j * 2 + 1, none⟩ (.int .i64 0))) := ⟨HGi.out.move (fun k hk => (setCell_far _ gx _ _ k (hne2 k hk)).trans (setCell_far _ gx _ _ k (hne2 k hk)))⟩
     have HBn : Aside0 (Below w8.heap.size w8 ((wr.setCell ⟨gx, j * 2, none⟩ (.string ⟨#[]⟩)).setCell ⟨gx, j * 2 + 1, none⟩ (.int .i64 0))) := ⟨(HBi.out.setCell (p := ⟨gx, j * 2, none⟩) (by show w8.heap.size ≤ gx; have := HS9.out; omega) _).setCell (p := ⟨gx, j * 2 + 1, none⟩) (by show w8.heap.size ≤ gx; have := HS9.out; omega) _⟩
     have v1 := own_setAt hxs (j * 2) (by omega) (.string ⟨#[]⟩)
     have v2 := own_setAt v1 (j * 2 + 1) (by rw [List.length_set]; omega) (.int .i64 0)
     have HVn : Aside0 (∃ ys, ((wr.setCell ⟨gx, j * 2, none⟩ (.string ⟨#[]⟩)).setCell ⟨gx, j * 2 + 1, none⟩ (.int .i64 0)).ownsRow w9.heap.size TE 2 (.slice (some ⟨gx, 0, none⟩) n cx) n ys) := ⟨⟨_, v2⟩⟩
     clear v1 v2
     clear HFi HGi HBi HVi hxs hxl hgb hgl hne1 hne2
     go_wp2_with fail
     go_roundw
     case rel => exact ⟨j + 1, rfl, by omega, HFn, HGn, HBn, HVn⟩
     case measure => rw [HN1.out, HN2.out]; exact HN3.out
    ·have n1 : ¬ ((j : Int) < (n : Int)) := by omega
     go_wp2_with fail
     refine (link_calls g1 F ((k : Int) - 1) wr HFi.out.read).mono ?_
     rintro e w' ⟨rfl, hww⟩
     obtain rfl : wr = w' := hww
     go_wp2_with fail
     go_roundw
     case rel => exact ⟨k + 1, HM4.out, by omega, HFi, HGi, HBi⟩
     case measure => rw [HM1.out, HM2.out]; exact HM3.out
  ·have dk : decide ((k : Int) - 1 ≤ (F.I.length : Int)) = false := decide_eq_false (by omega)
   have hsF : ∀ x ∈ F.I, x.f1.length ≤ 100000 := fun x hx => by
    obtain ⟨i, hi, rfl⟩ := List.getElem_of_mem hx
    have := HEN.out i
    rwa [Fs.at_get F i hi] at this
   have hsD : F.D.length ≤ 100000 := by have := HOK.out.D; omega
   have HSA : Aside0 (∀ (H : Fs) (W : World), FsR g1 F W → FsR g2 H W → Calls Try.prog 23 #[.pointer (some ⟨g1, 0, none⟩), .pointer (some ⟨g2, 0, none⟩)] W fun e w' => e = .returned (.bool (F.sameB H)) ∧ Below W.heap.size W w') := ⟨fun H W h1 h2 => same_calls F H g1 g2 W h1 h2 hsF hsD⟩
   have HSR : Aside0 (F.sameB F = true) := ⟨F.sameB_refl⟩
   clear hsF hsD
   go_wp2_with fail
   refine (HSA.out F wr HFr.out.read HGr.out.read).mono ?_
   rintro e w9 ⟨rfl, h9⟩
   have HF9 := Aside0.mk (HFr.out.below h9)
   have HG9 : Aside0 (FsAt g2 g2 (fun k => g2 ≤ k) F w9) := ⟨FsAt.weak (HGr.out.below h9) (fun k hk => hk.1)⟩
   have HB9 := Aside0.mk (below_step HBr.out h9)
   clear h9 HFr HGr HBr
   have hs1 := HSR.out
   rw [hs1]
   have HA9 := Aside0.mk (blk_on HA8.out HB9.out)
   obtain ⟨q0, q1, q2, q3, q4, q5, q6, q7⟩ := box_cells HA9.out
   go_wp2_with fail
   refine (HDO.out g2 w9 HG9.out).mono ?_
   rintro e w10 ⟨rfl, h6, k6⟩
   have hb10 : Below g2 w9 w10 := k6.under (fun k hk => by show ¬ g2 ≤ k; omega) (by have := HG2.out; have := HB9.out.size; omega)
   have HF10 : Aside0 (FsAt g1 g1 (fun k => k < g2) F w10) := ⟨HF9.out.move (fun k hk => hb10.block k hk)⟩
   have HG10 := Aside0.mk h6
   have HA10 : Aside0 (w10.heap[b]? = some (.cells #[.int .i64 x0, .int .i64 x1, .int .i64 x2, .string x3, .string x4, .int .i64 x5, .int .i64 x6, .int .i64 x7] TC (0, 0))) := ⟨(hb10.block b HBG.out).trans HA9.out⟩
   have HB10 : Aside0 (Below w.heap.size w w10) := ⟨(below_step HB8.out HB9.out).trans (hb10.mono (by have := HW.out; omega))⟩
   clear h6 k6 hb10 q0 q1 q2 q3 q4 q5 q6 q7 HF9 HG9 HA9
   obtain ⟨q0, q1, q2, q3, q4, q5, q6, q7⟩ := box_cells HA10.out
   by_cases he : dE = 0
   ·subst he
    have hkd := HKD.out rfl
    by_cases h4 : 4 ≤ x0 ∧ x0 ≠ 7
    ·have d4 : decide ((4 : Int) ≤ x0) = true := decide_eq_true h4.1
     have d7 : (x0 != 7) = true := by rw [bne_iff_ne]; exact h4.2
     clear hkd h4
     go_wp2
     go_ret
     exact ⟨rfl, HB10.out⟩
    ·have hsm := HMO.out rfl (by omega)
     have HSG := Aside0.mk hsm
     by_cases h4' : 4 ≤ x0
     ·have h7' : x0 = 7 := by omega
      subst h7'
      clear hkd h4 h4' hsm
      go_wp2_with fail
      refine (HSA.out G w10 HF10.out.read HG10.out.read).mono ?_
      rintro e w11 ⟨rfl, h11⟩
      rw [HSG.out]
      have HB11 := Aside0.mk (below_step HB10.out h11)
      clear h11
      go_wp2
      go_ret
      exact ⟨rfl, HB11.out⟩
     ·have d4 : decide ((4 : Int) ≤ x0) = false := decide_eq_false h4'
      clear hkd h4 h4' hsm
      go_wp2_with fail
      refine (HSA.out G w10 HF10.out.read HG10.out.read).mono ?_
      rintro e w11 ⟨rfl, h11⟩
      rw [HSG.out]
      have HB11 := Aside0.mk (below_step HB10.out h11)
      clear h11
      go_wp2
      go_ret
      exact ⟨rfl, HB11.out⟩
   ·have hsm := HNO.out he
    have HSG := Aside0.mk hsm
    have b1 : (dE != 0) = true := by rw [bne_iff_ne]; exact he
    clear he hsm
    go_wp2_with fail
    refine (HSA.out G w10 HF10.out.read HG10.out.read).mono ?_
    rintro e w11 ⟨rfl, h11⟩
    rw [HSG.out]
    have HB11 := Aside0.mk (below_step HB10.out h11)
    clear h11
    go_wp2
    go_ret
    exact ⟨rfl, HB11.out⟩
end Go.Proofs.Ytlfldoghomnbkaa.QVfs
end

section
namespace Go.Proofs.Ytlfldoghomnbkaa.QVfs
open Go.RowKit Go.Proofs.YtlfldoghomnbkaaW.PrintWords Go.Proofs.YtlfldoghomnbkaaW.PrintLast Go.Proofs.YtlfldoghomnbkaaW.PrintMore
set_option linter.unusedVariables false
def domesdaylaw06_VfsSame.f (l : List S33) (x7 : Int) : Option Bool := if (l.all fun x => (Lit.int .i64 x.f7).wf) = true ∧ (Lit.int .i64 x7).wf = true then some true else none
theorem domesdaylaw06_VfsSame.calls (A : Option Addr) (c : Nat) (l : List S33) (x0 x1 x2 : Int) (x3 x4 : ByteArray) (x5 x6 x7 : Int) (r : Bool) (w : World) (hC : Kd.C k33 w A l.length l) (hc : l.length ≤ c) (h : domesdaylaw06_VfsSame.f l x7 = some r) :
  Calls Try.prog 7 #[.slice A l.length c, .agg #[.int .i64 x0, .int .i64 x1, .int .i64 x2, .string x3, .string x4, .int .i64 x5, .int .i64 x6, .int .i64 x7]] w fun e w' => e = .returned (.bool r) ∧ Below w.heap.size w w' := by
 unfold domesdaylaw06_VfsSame.f at h
 split at h
 ·rename_i hw
  obtain rfl := Option.some.inj h
  have h7 : ∀ x ∈ l, x.f7 ≤ 9223372036854775807 := fun x hx => by
   have := List.all_eq_true.1 hw.1 x hx
   simp [Lit.wf, IntKind.min, IntKind.max, IntKind.signed, IntKind.bits] at this
   omega
  have h7x : x7 ≤ 9223372036854775807 := by
   have := hw.2
   simp [Lit.wf, IntKind.min, IntKind.max, IntKind.signed, IntKind.bits] at this
   omega
  by_cases hf : fewB l 40 = true ∧ fewB [(⟨x0, x1, x2, x3, x4, x5, x6, x7⟩ : Chg)] 1 = true
  ·exact same_true A c l ⟨x0, x1, x2, x3, x4, x5, x6, x7⟩ w hC hc hf.1 hf.2 h7 h7x
  ·exact same_not A c l ⟨x0, x1, x2, x3, x4, x5, x6, x7⟩ w hC hc hf
 ·cases h
end Go.Proofs.Ytlfldoghomnbkaa.QVfs
end

section
namespace Go.Proofs.Ytlfldoghomnbkaa.Pure
open Go.RowKit Go.Proofs.Ytlfldoghomnbkaa.QVfs
set_option linter.unusedVariables false
theorem VfsSame (l : List S33) (x0 x1 x2 : Int) (x3 x4 : ByteArray) (x5 x6 x7 : Int) {Q0 Q1 Q2 Q3 Q4 Q5 Q6 : Prop} (hl : ∀ y ∈ l, ((Lit.int .i64 y.f0).wf = true) ∧ ((Lit.int .i64 y.f1).wf = true) ∧ ((Lit.int .i64 y.f2).wf = true) ∧ (y.f3.size ≤ maxLen) ∧ (y.f4.size ≤ maxLen) ∧ ((Lit.int .i64 y.f5).wf = true) ∧ ((Lit.int .i64 y.f6).wf = true) ∧ ((Lit.int .i64 y.f7).wf = true)) (h0 : Q0) (h1 : Q1) (h2 : Q2) (h3 : Q3) (h4 : Q4) (h5 : Q5) (h6 : Q6) (h7 : (Lit.int .i64 x7).wf = true) : domesdaylaw06_VfsSame.f l x7 = some true := by
 unfold domesdaylaw06_VfsSame.f
 rw [if_pos ⟨List.all_eq_true.2 fun y hy => (hl y hy).2.2.2.2.2.2.2, h7⟩]
end Go.Proofs.Ytlfldoghomnbkaa.Pure
end

section
namespace Go.Proofs.Ytlfldoghomnbkaa.vfsSame
open Go.ChangeShapes Go.WideShapes Go.ChangeAt Go.RowKit Go.Proofs.YtlfldoghomnbkaaW.VRow Go.Proofs.YtlfldoghomnbkaaW.VRow3 Go.Proofs.YtlfldoghomnbkaaW.PrintWords
open Go.ChangeMaps (open_string shut_string)
set_option linter.unusedVariables false
theorem own : ownKnob Try.prog.godebug = none := by kernel_rfl
theorem laidOut : laidOutB Try.prog = true := by kernel_rfl
theorem flat3 : Flat Try.prog 3 [FK.int .i64] := Flat.int Try.underlying3
theorem flat9 : Flat Try.prog 9 [FK.str] := Flat.str Try.underlying9
theorem flat2 : Flat Try.prog 2 [FK.int .i64] := Flat.int Try.underlying2
theorem flat33 : Flat Try.prog 33 [FK.int .i64, FK.int .i64, FK.int .i64, FK.str, FK.str, FK.int .i64, FK.int .i64, FK.int .i64] := by
 refine Flat.struct (kss := [[FK.int .i64], [FK.int .i64], [FK.int .i64], [FK.str], [FK.str], [FK.int .i64], [FK.int .i64], [FK.int .i64]]) Try.underlying33 ⟨rfl, ?_⟩ (by kernel_rfl)
 intro i hi
 match i, hi with
 | 0, _ => exact ⟨_, rfl, rfl, by kernel_rfl, flat3⟩
 | 1, _ => exact ⟨_, rfl, rfl, by kernel_rfl, flat3⟩
 | 2, _ => exact ⟨_, rfl, rfl, by kernel_rfl, flat3⟩
 | 3, _ => exact ⟨_, rfl, rfl, by kernel_rfl, flat9⟩
 | 4, _ => exact ⟨_, rfl, rfl, by kernel_rfl, flat9⟩
 | 5, _ => exact ⟨_, rfl, rfl, by kernel_rfl, flat3⟩
 | 6, _ => exact ⟨_, rfl, rfl, by kernel_rfl, flat3⟩
 | 7, _ => exact ⟨_, rfl, rfl, by kernel_rfl, flat2⟩
 | i + 8, hi => simp at hi; omega
theorem tells3 : TellsQ Try.prog 3 (Kd.int .i64) (fun x : Int => (Lit.int .i64 x).wf = true) := TellsQ.int Try.underlying3
theorem tells9 : TellsQ Try.prog 9 Kd.string (fun x : ByteArray => x.size ≤ maxLen) := TellsQ.str Try.underlying9
theorem tells2 : TellsQ Try.prog 2 (Kd.int .i64) (fun x : Int => (Lit.int .i64 x).wf = true) := TellsQ.int Try.underlying2
theorem tells33 : TellsQ Try.prog 33 QVfs.k33 (fun x : QVfs.S33 => ((Lit.int .i64 x.f0).wf = true) ∧ ((Lit.int .i64 x.f1).wf = true) ∧ ((Lit.int .i64 x.f2).wf = true) ∧ (x.f3.size ≤ maxLen) ∧ (x.f4.size ≤ maxLen) ∧ ((Lit.int .i64 x.f5).wf = true) ∧ ((Lit.int .i64 x.f6).wf = true) ∧ ((Lit.int .i64 x.f7).wf = true)) := TellsQ.iso (TellsQ.structA Try.underlying33 (by kernel_rfl) (TellsFQ.cons rfl (by kernel_rfl) tells3 (TellsFQ.cons rfl (by kernel_rfl) tells3 (TellsFQ.cons rfl (by kernel_rfl) tells3 (TellsFQ.cons rfl (by kernel_rfl) tells9 (TellsFQ.cons rfl (by kernel_rfl) tells9 (TellsFQ.cons rfl (by kernel_rfl) tells3 (TellsFQ.cons rfl (by kernel_rfl) tells3 (TellsFQ.one rfl (by kernel_rfl) tells2))))))))) (fun x : QVfs.S33 => (x.f0, x.f1, x.f2, x.f3, x.f4, x.f5, x.f6, x.f7)) (fun p => ⟨p.1, p.2.1, p.2.2.1, p.2.2.2.1, p.2.2.2.2.1, p.2.2.2.2.2.1, p.2.2.2.2.2.2.1, p.2.2.2.2.2.2.2⟩) (fun _ => rfl)
theorem tells41 : TellsQ Try.prog 41 (Kd.slice 33 QVfs.k33) (fun x : List _ => ∀ y33 ∈ x, ((Lit.int .i64 y33.f0).wf = true) ∧ ((Lit.int .i64 y33.f1).wf = true) ∧ ((Lit.int .i64 y33.f2).wf = true) ∧ (y33.f3.size ≤ maxLen) ∧ (y33.f4.size ≤ maxLen) ∧ ((Lit.int .i64 y33.f5).wf = true) ∧ ((Lit.int .i64 y33.f6).wf = true) ∧ ((Lit.int .i64 y33.f7).wf = true)) := TellsQ.slice Try.underlying41 tells33 (by kernel_rfl)
set_option maxRecDepth 100000 in
theorem lifted (os : Os) (started : os.Started) (H : Type) (enc : TypeId × Value → H) :
  ReturnsInHanded {} Try.checked os 7 .any (Rows.vfsSameSpec.pre6 enc Try.prog Try.f7 Rows.vfsSameRow.domain false) (Rows.vfsSameSpec.post enc Try.prog Try.f7 false true false false) := by
 refine returnsInHanded_of_change_sized (C := Try.checked) own started (by kernel_rfl) Try.func7
  (ChangeSpec.witness6 (enc := enc) (C := Try.checked) false ⟨#[], #[.slice none 0 0, .agg #[.int .i64 0, .int .i64 0, .int .i64 0, .string ByteArray.empty, .string ByteArray.empty, .int .i64 0, .int .i64 0, .int .i64 0]], []⟩ 8 (by kernel_rfl) (by kernel_rfl) (by kernel_rfl) (by kernel_rfl)) ?_
 intro W base args ds gs before hval0 hW hcnd hsz0 _
 have hsz : (DataW.weightsEach Try.prog (Try.f7.params.toList ++ Rows.vfsSameSpec.plain.varTypes Try.prog) (ds ++ gs)).all (· ≤ reachBytes) = true := hsz0
 have hval : ∀ (j : Nat) t v, Try.f7.params[j]? = some t → args[j]? = some v → Value.okWide Try.prog W .any base t v := hval0
 have hW' := hW
 obtain ⟨p, q, hA0, hV, rfl, hfz, hnd⟩ := hW
 have hA : DataW.TrodAll enc Try.prog W 0 (fun _ => true) true Try.f7.params.toList args.toList ds p := hA0
 rw [Try.params7] at hA hval hsz
 obtain ⟨v0, vs0, d0, ds0, p0, q0, hargs, rfl, rfl, h0, r0⟩ := trodAll_cons hA
 obtain ⟨v1, vs1, d1, ds1, p1, q1, rfl, rfl, rfl, h1, r1⟩ := trodAll_cons r0
 obtain ⟨rfl, rfl, rfl⟩ := trodAll_nil r1
 obtain rfl : args = #[v0, v1] := by cases args; simp_all
 obtain ⟨rfl, rfl⟩ := trodVars_none hV
 obtain ⟨A0, n0, c0, rfl⟩ := okWide_slice Try.underlying41 (hval 0 41 v0 rfl rfl)
 have k0 := h0
 have lt0 : ∀ x ∈ p0, x.block < W.heap.size := by obtain ⟨m, hm⟩ := k0; exact DataW.trod_lt m _ _ _ hm
 obtain ⟨l0, C0, rfl, le0, w0⟩ := open_toldQ tells41 h0
 obtain ⟨cs1, rfl, f1, rfl⟩ := open_flat (by obtain ⟨cs, hc, _⟩ := okWide_struct Try.underlying33 (hval 1 33 v1 rfl rfl); exact ⟨cs, hc⟩) flat33 h1
 obtain ⟨c, cs1, rfl, ⟨x1_0, rfl, w1_0⟩, f1⟩ := f1
 obtain ⟨c, cs1, rfl, ⟨x1_1, rfl, w1_1⟩, f1⟩ := f1
 obtain ⟨c, cs1, rfl, ⟨x1_2, rfl, w1_2⟩, f1⟩ := f1
 obtain ⟨c, cs1, rfl, ⟨x1_3, rfl, w1_3⟩, f1⟩ := f1
 obtain ⟨c, cs1, rfl, ⟨x1_4, rfl, w1_4⟩, f1⟩ := f1
 obtain ⟨c, cs1, rfl, ⟨x1_5, rfl, w1_5⟩, f1⟩ := f1
 obtain ⟨c, cs1, rfl, ⟨x1_6, rfl, w1_6⟩, f1⟩ := f1
 obtain ⟨c, cs1, rfl, ⟨x1_7, rfl, w1_7⟩, f1⟩ := f1
 obtain rfl : cs1 = [] := f1
 clear hA0 hval0 hsz0 hsz
 have hk := Pure.VfsSame l0 x1_0 x1_1 x1_2 x1_3 x1_4 x1_5 x1_6 x1_7 w0 w1_0 w1_1 w1_2 w1_3 w1_4 w1_5 w1_6 w1_7
 refine (QVfs.domesdaylaw06_VfsSame.calls A0 c0 l0 x1_0 x1_1 x1_2 x1_3 x1_4 x1_5 x1_6 x1_7 true W C0 le0 hk).mono fun e W' ⟨he, bel0⟩ => ?_
 have bel : Below W.heap.size W W' := bel0
 subst he
 exact ⟨_, rfl, _, _, _, [], _, [], hW', trodAll_mk1 (shut_bool Try.underlying4 _), (trodAll_cons_mk (Below.trod laidOut (by kernel_rfl) (of_decide_eq_true (by kernel_rfl)) k0 bel lt0) (trodAll_cons_mk (stays_flat laidOut (by kernel_rfl) (of_decide_eq_true (by kernel_rfl)) h1 bel) trodAll_mk0)), rfl, bel.frame _, fun h => by cases h⟩
theorem over : Rows.vfsSameRow.holds Try.pinned (OpenSpec.ofChange Rows.vfsSameSpec) :=
 OpenClaim.holds_of_wide 7 Try.f7 rfl rfl rfl rfl rfl rfl rfl ⟨rfl, rfl, rfl, rfl, rfl⟩ rfl rfl rfl rfl rfl (by kernel_rfl) Try.func7 (by kernel_rfl)
  (of_decide_eq_true (by kernel_rfl)) (by unfold Func.isWrapper; first | (rw [if_pos (by decide +kernel)]; kernel_rfl) | (rw [if_neg (by decide +kernel)]; exact ⟨rfl, rfl⟩))
  (fun os started H enc _ => lifted os started H enc)
theorem proved : Rows.VfsSameSaid := over
#print axioms proved
end Go.Proofs.Ytlfldoghomnbkaa.vfsSame
namespace Go.Proofs.Ytlfldoghomnbkaa
theorem vfsSame_holds : Rows.VfsSameSaid := vfsSame.proved
end Go.Proofs.Ytlfldoghomnbkaa
end
