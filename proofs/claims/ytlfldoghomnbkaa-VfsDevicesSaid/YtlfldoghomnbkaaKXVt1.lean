import Derived.Test.YtlfldoghomnbkaaKXVt0
import Derived.Test.YtlfldoghomnbkaaKNAwake
import Derived.Test.YtlfldoghomnbkaaKXVf16
-- Texts of this seat, what the claim does not reach struck out by a program.
namespace Go.Proofs.Ytlfldoghomnbkaa.QVfs
open Go.RowKit Go.Proofs.YtlfldoghomnbkaaW.PrintWords Go.Proofs.YtlfldoghomnbkaaW.PrintLast Go.Proofs.YtlfldoghomnbkaaW.PrintMore
set_option linter.unusedVariables false
set_option linter.unusedSimpArgs false
set_option maxHeartbeats 4000000 in
set_option maxRecDepth 100000 in
theorem dev_few (A : Option Addr) (c : Nat) (l : List Chg) (w : World) (hC : Kd.C k33 w A l.length l) (hc : l.length ≤ c) (hf : fewB l 60 = false) :
  Calls Try.prog 5 #[.slice A l.length c] w fun e w' => e = .returned (.bool true) ∧ Below w.heap.size w w' := by
 have cF := fun W (hb : Below w.heap.size w W) => few_calls A c l 60 W (Kd.C_below hC hb) hc
 rw [hf] at cF
 have HF := z1_.mk cF
 clear cF hC hf
 go_enter Try.func5, Try.ntmps5
 go_wp2_with fail
 refine (awake_calls w).mono ?_
 rintro e w1 ⟨rfl, h1⟩
 have H1 := z1_.mk h1
 clear h1
 go_wp2_with fail
 refine (HF.out w1 H1.out).mono ?_
 rintro e w2 ⟨rfl, h2⟩
 have H2 := z1_.mk (z7_ H1.out h2)
 clear h2
 go_wp2_with fail
 refine (awake_calls w2).mono ?_
 rintro e w3 ⟨rfl, h3⟩
 have H3 := z1_.mk (z7_ H2.out h3)
 clear h3
 go_wp2
 go_ret
 exact ⟨rfl, H3.out⟩
def DevAt (g gd gn : Nat) (F : Fs) (R : Ref) (w : World) (i : Nat) (wr : World) : Prop :=
 (∃ us, Both g F R wr us (fun k => k = gd ∨ k = gn)) ∧ (∃ cap, wr.ownsRow 0 TZ 1 (.slice (some ⟨gd, 0, none⟩) F.D.length cap) F.D.length (nums .i64 F.D)) ∧
  (∃ xs : List Int, xs.length = F.D.length ∧ (∀ d, d < F.D.length → xs.getD d 0 = cntF F.dev ((d : Int) + 1) i) ∧ wr.ownsRow 0 TZ 1 (.slice (some ⟨gn, 0, none⟩) F.D.length F.D.length) F.D.length (nums .i64 xs)) ∧ Below w.heap.size w wr ∧ w.heap.size ≤ gn ∧ gd ≠ gn
theorem dev_step {g gd gn : Nat} {F : Fs} {R : Ref} {w w8 : World} {us : Array Value} {i k cp : Nat} {xs : List Int} {mi : Int} (hB : Both g F R w8 us (fun k => k = gd ∨ k = gn)) (hd : w8.ownsRow 0 TZ 1 (.slice (some ⟨gd, 0, none⟩) F.D.length cp) F.D.length (nums .i64 F.D))
  (hn : w8.ownsRow 0 TZ 1 (.slice (some ⟨gn, 0, none⟩) F.D.length F.D.length) F.D.length (nums .i64 xs)) (hxl : xs.length = F.D.length) (hxc : ∀ d, d < F.D.length → xs.getD d 0 = cntF F.dev ((d : Int) + 1) i) (hbel : Below w.heap.size w w8) (hgw : w.heap.size ≤ gn) (hne : gd ≠ gn)
  (hk : k < F.D.length) (hmi : mi = cntF F.dev ((k : Int) + 1) i) (hdev : F.dev i = (k : Int) + 1) (o : Obj) (nq : Nat) (x : Int) (hx : x = mi + 1) :
  DevAt g gd gn F R w (i + 1) (((w8.setCell ⟨gn, k, none⟩ (.int .i64 x)).alloc o).drewN nq) := by
 subst hx
 have hb : ∀ W : World, Below W.heap.size W (W.alloc o) := fun W => zk_ o
 have hBs := (hB.set gn k (.int .i64 (mi + 1)) (Or.inr rfl)).below (hb _)
 have hns := (own_store hn (k : Int) (mi + 1)).1
 rw [Int.toNat_natCast] at hns
 replace hns := pw_own_below hns (hb _)
 have hds := pw_own_below (own_setCell hd (p := ⟨gn, k, none⟩) (by simp [Value.ownBlock]; exact fun e => hne e.symm) (.int .i64 (mi + 1))) (hb _)
 have hdr : ∀ W : World, Below W.heap.size W (W.drewN nq) := fun W => z3_ (y6_ _ W) nq
 refine ⟨⟨us, hBs.below (hdr _)⟩, ⟨cp, pw_own_below hds (hdr _)⟩, ⟨xs.set k (mi + 1), by rw [List.length_set]; exact hxl, fun d hd' => ?_, pw_own_below hns (hdr _)⟩, ?_, hgw, hne⟩
 ·rw [List.getD_eq_getElem?_getD, List.getElem?_set, cntF, hdev]
  by_cases c : k = d
  ·subst c
   rw [if_pos rfl, if_pos (by omega), if_pos rfl, hmi]; rfl
  ·rw [if_neg c, if_neg (by omega), ← List.getD_eq_getElem?_getD, hxc d hd']; rfl
 ·exact z3_ (z7_ (hbel.setCell hgw _) (hb _)) nq
set_option maxHeartbeats 8000000 in
set_option maxRecDepth 100000 in
theorem dev_true (A : Option Addr) (c : Nat) (l : List Chg) (w : World) (hC : Kd.C k33 w A l.length l) (hc : l.length ≤ c) (hf : fewB l 60 = true) (h7 : ∀ x ∈ l, x.f7 ≤ 9223372036854775807) :
  Calls Try.prog 5 #[.slice A l.length c] w fun e w' => e = .returned (.bool true) ∧ Below w.heap.size w w' := by
 have hsm := few_small hf (by decide) h7
 have cF := fun W (hb : Below w.heap.size w W) => few_calls A c l 60 W (Kd.C_below hC hb) hc
 rw [hf] at cF
 have HF := z1_.mk cF
 have cM := fun W (hb : Below w.heap.size w W) => made_calls A l c W (Kd.C_below hC hb) hc hsm.1 (by omega)
 have HM := z1_.mk cM
 have hok := (run_ok l).1
 have hnum := run_num l
 obtain ⟨F, hFe⟩ : ∃ F, F = Fs.run l := ⟨_, rfl⟩
 rw [← hFe] at hok hnum
 have hI := hok.I
 have hDI := hok.D
 have hp := hnum.pos
 have hz := hnum.zero
 have HK := z1_.mk hok
 have HN := z1_.mk hnum
 have HFe := z1_.mk hFe
 have HZ := z1_.mk hz
 clear cF cM hC hf h7 hsm hok hnum hFe hz
 go_enter Try.func5, Try.ntmps5
 go_wp2_with fail
 refine (awake_calls w).mono ?_
 rintro e w1 ⟨rfl, h1⟩
 have H1 := z1_.mk h1
 clear h1
 go_wp2_with fail
 refine (HF.out w1 H1.out).mono ?_
 rintro e w2 ⟨rfl, h2⟩
 have H2 := z1_.mk (z7_ H1.out h2)
 clear h2
 go_wp2_with fail
 refine (HM.out w2 H2.out).mono ?_
 rintro e w3 ⟨g, us, rfl, hg, hB, hb3⟩
 rw [← HFe.out] at hB
 obtain ⟨A0, c0, A1, c1, A2, c2, A3, c3, A4, c4, A5, c5, rfl⟩ := hB.form
 have H3 := z1_.mk (z7_ H2.out hb3)
 have HB := z1_.mk hB
 clear hB hb3 hg
 go_wp2_with fail
 obtain ⟨w4, hw4⟩ : ∃ w4, w4 = w3.alloc (.cells #[.slice A0 (Ref.run l).N.length c0, .slice A1 (Ref.run l).L.length c1, .slice A2 (Ref.run l).Cov.length c2, .slice A3 (Ref.run l).Dead.length c3, .slice A4 (Ref.run l).Above.length c4, .slice A5 (Ref.run l).Firsts.length c5] TR) := ⟨_, rfl⟩
 rw [← hw4]
 have hb4 : Below w3.heap.size w3 w4 := by rw [hw4]; exact zk_ _
 have H4 := z1_.mk (z7_ H3.out hb4)
 have HB4 := z1_.mk (HB.out.below hb4)
 clear hw4 hb4 HB H3
 refine (devices_calls g g (fun k => g ≤ k) F w4 HB4.out.fs hp (by omega)).mono ?_
 rintro e w5 ⟨v, rfl, hv, hb5⟩
 obtain ⟨gd, cap, rfl, _⟩ := hv.form hp
 have hgd0 : w4.heap.size ≤ gd := own_base hv gd rfl
 have hgdl : gd < w5.heap.size := own_lt hv gd rfl
 have H5 := z1_.mk (z7_ H4.out hb5)
 have HB5 : z1_ (Both g F (Ref.run l) w5 _ (fun k => k = gd)) := ⟨HB4.out.more hb5 (fun k hk => by subst hk; exact ⟨hgdl, Or.inr hgd0⟩)⟩
 have hz0 : rd F.D 0 = 0 := HZ.out
 have k0 := (own_at hv 0 (by omega) (by omega)).1
 rw [hz0] at k0
 have k0' : w5.cell? ⟨gd, 0, none⟩ = some (.int .i64 0) := k0
 have HV := z1_.mk hv
 have HG := z1_.mk hgdl
 have d1 : decide ((F.D.length : Int) < 1) = false := y3_ (by omega)
 have n0 : (0 : Int) < (F.D.length : Int) := by omega
 have hmk := print_make (P := Try.prog) 45 TZ .i64 8 Try.underlying45 info3 (by decide) F.D.length (by omega)
 clear hb5 hv hgdl hgd0 hz0 k0 HB4 H4
 go_wp2
 obtain ⟨gn, hgn⟩ : ∃ gn, gn = w5.heap.size := ⟨_, rfl⟩
 rw [← hgn]
 obtain ⟨w6, hw6⟩ : ∃ w6, w6 = w5.alloc (.cells (madeCells #[.int .i64 0] F.D.length) TZ) := ⟨_, rfl⟩
 rw [← hw6]
 have hb6 : Below w5.heap.size w5 w6 := by rw [hw6]; exact zk_ _
 have hs6 : w6.heap.size = w5.heap.size + 1 := by rw [hw6]; simp
 have hn6 := own_made w5 0 TZ .i64 F.D.length (Nat.zero_le _) (by omega)
 rw [← hw6, ← hgn] at hn6
 have HA : z1_ (DevAt g gd gn F (Ref.run l) w 0 w6) := ⟨by
  refine ⟨⟨_, HB5.out.more hb6 (fun k hk => ?_)⟩, ⟨cap, own_weaken (pw_own_below HV.out hb6) (Nat.zero_le _)⟩, ⟨_, by simp, fun d hd => ?_, hn6⟩, z7_ H5.out hb6, by rw [hgn]; exact H5.out.size, by have := HG.out; omega⟩
  ·rcases hk with rfl | rfl
   ·exact ⟨by have := HG.out; omega, Or.inl rfl⟩
   ·exact ⟨by omega, Or.inr (by omega)⟩
  ·simp [List.getD_eq_getElem?_getD, hd, cntF]⟩
 clear hw6 hb6 hs6 hn6 hgn HB5 HV HG H5 k0' hmk
 go_loopw [7] (fun v7 wr => ∃ i : Nat, v7 = .int .i64 i ∧ i ≤ F.I.length ∧ z1_ (DevAt g gd gn F (Ref.run l) w i wr)) (fun v7 _ => F.I.length - (intOf v7).toNat)
 case atStart => exact ⟨0, rfl, Nat.zero_le _, HA⟩
 case round =>
  obtain ⟨i, rfl, hi, HAi⟩ := hrel
  clear HA
  obtain ⟨⟨us, hB⟩, ⟨cp, hd⟩, ⟨xs, hxl, hxc, hn⟩, hbel, hgw, hgne⟩ := HAi.out
  have HBo := z1_.mk hB
  have HD := z1_.mk hd
  have HX := z1_.mk hxc
  have HXL := z1_.mk hxl
  have HNx := z1_.mk hn
  have HBe := z1_.mk hbel
  have HGW := z1_.mk hgw
  have HNE := z1_.mk hgne
  clear hB hd hxc hxl hn hbel hgw hgne HAi
  go_wp2_with fail
  refine (count_calls g F wr HBo.out.fs.read).mono ?_
  rintro e w7 ⟨rfl, rfl⟩
  by_cases hlt : i < F.I.length
  ·have e1 : decide (i < F.I.length) = true := y4_ hlt
   have hdv := HN.out.dev i hlt
   have hin := HN.out.ino i hlt
   have cN := node_calls g F (i : Int) wr HBo.out.fs.read
   have hh : F.has (i : Int) = true := y4_ ⟨by omega, by omega⟩
   have hE : F.nodeE (i : Int) = 0 := by unfold Fs.nodeE; rw [if_pos hh]
   have hNd : F.nodeN (i : Int) = (F.at i).f0 := by unfold Fs.nodeN; rw [if_pos hh, Fs.it_at]
   rw [hE, hNd] at cN
   obtain ⟨k, hk⟩ : ∃ k : Nat, F.dev i = (k : Int) + 1 := ⟨(F.dev i - 1).toNat, by omega⟩
   have hkl : k < F.D.length := by omega
   have hcl := cntF_le F.dev ((k : Int) + 1) i
   obtain ⟨a, ha1, ha2, ha3, ha4⟩ := HN.out.first k hkl
   have hxk := HX.out k hkl
   rw [hk] at hin
   have hin' : F.ino i = (cntF F.dev ((k : Int) + 1) i : Int) + 1 := by rw [hin, cntF, if_pos hk]; omega
   have hfirst : (cntF F.dev ((k : Int) + 1) i = 0 ∧ a = i) ∨ (0 < cntF F.dev ((k : Int) + 1) i ∧ a ≠ i) := by
    by_cases c : a = i
    ·left; exact ⟨cntF_none _ _ _ (fun j hj => ha4 j (by omega)), c⟩
    ·right
     refine ⟨?_, c⟩
     have hai : a < i := by
      rcases Nat.lt_or_ge a i with q | q
      ·exact q
      ·exact absurd hk (ha4 i (by omega))
     have hm := cntF_mono F.dev ((k : Int) + 1) (show a + 1 ≤ i from hai)
     have : cntF F.dev ((k : Int) + 1) (a + 1) = cntF F.dev ((k : Int) + 1) a + 1 := by rw [cntF, if_pos ha3]
     omega
   obtain ⟨mi, hmi⟩ : ∃ mi : Int, mi = (cntF F.dev ((k : Int) + 1) i : Int) := ⟨_, rfl⟩
   obtain ⟨di, hdi⟩ : ∃ di : Int, di = (a : Int) := ⟨_, rfl⟩
   have hmb : 0 ≤ mi ∧ mi ≤ 300 := by omega
   have hcase : (mi = 0 ∧ di = (i : Int)) ∨ (0 < mi ∧ di ≠ (i : Int)) := by omega
   have hxk' : rd xs (k : Int) = mi := by unfold rd; rw [Int.toNat_natCast, hxk, hmi]
   have hdk' : rd F.D (k : Int) = di := by unfold rd; rw [Int.toNat_natCast, ha1, hdi]
   have HDV := z1_.mk hk
   unfold Fs.dev at hk
   unfold Fs.ino at hin'
   rw [← hmi] at hin'
   obtain ⟨⟨a0, a1, a2, a3, a4, a5, a6, a7, a8, ⟨a9, a10, a11⟩, a12⟩, hnd⟩ : ∃ nd, nd = (F.at i).f0 := ⟨_, rfl⟩
   rw [← hnd] at cN hk hin'
   simp only at hk hin'
   subst hk hin'
   unfold encN at cN
   have HCN := z1_.mk cN
   have n1 : (0 : Int) ≤ (k : Int) := by omega
   have n2 : (k : Int) < (F.D.length : Int) := by omega
   have n3 : decide ((k : Int) + 1 < 1) = false := y3_ (by omega)
   have n4 : decide ((F.D.length : Int) < (k : Int) + 1) = false := y3_ (by omega)
   have hmb1 := hmb.1
   have hmb2 := hmb.2
   have HMI := z1_.mk hmi
   have HXK := z1_.mk hxk'
   have HDK := z1_.mk hdk'
   have HKL := z1_.mk hkl
   clear hdv hin cN hh hE hNd hcl ha1 ha2 ha3 ha4 hxk hfirst hmi hdi hmb hxk' hdk' hnd
   go_wp2_with fail
   refine HCN.out.mono ?_
   rintro e w8 ⟨rfl, hb8⟩
   have HB8 := z1_.mk (HBo.out.below hb8)
   have hd8 := pw_own_below HD.out hb8
   have hn8 := pw_own_below HNx.out hb8
   have hD := (own_at hd8 (k : Int) n1 n2).1
   have hX := own_at hn8 (k : Int) n1 n2
   have hX1 := hX.1
   have hX2 := hX.2
   rw [HDK.out, Int.toNat_natCast] at hD
   rw [HXK.out, Int.toNat_natCast] at hX1
   rw [Int.toNat_natCast] at hX2
   have hgnl : gn < w8.heap.size := own_lt hn8 gn rfl
   have hgdl : gd < w8.heap.size := own_lt hd8 gd rfl
   have hne1 : gd ≠ gn := HNE.out
   have hne2 := hne1.symm
   have hne3 : gn ≠ w8.heap.size := by omega
   have hne4 : w8.heap.size ≠ gn := by omega
   have HD8 := z1_.mk hd8
   have HN8 := z1_.mk hn8
   have HE8 := z1_.mk (z7_ HBe.out hb8)
   clear hX hd8 hn8 hb8 HCN HBo HD HNx HBe
   rcases hcase with ⟨rfl, rfl⟩ | ⟨hm0, hdi⟩
   ·go_wp2_with fail
    go_quiet (fail)
    go_wp2
    go_roundw
    case rel => exact ⟨i + 1, by go_num, by omega, ⟨dev_step HB8.out HD8.out HN8.out HXL.out HX.out HE8.out HGW.out HNE.out HKL.out HMI.out HDV.out _ _ _ (by omega)⟩⟩
    case measure => simp [intOf]; omega
   ·have e2 : (mi + 1 == 1) = false := beq_eq_false_iff_ne.2 (by omega)
    have e3 : (di == (i : Int)) = false := beq_eq_false_iff_ne.2 hdi
    clear hdi
    go_wp2_with fail
    go_quiet (fail)
    go_wp2
    go_roundw
    case rel => exact ⟨i + 1, by go_num, by omega, ⟨dev_step HB8.out HD8.out HN8.out HXL.out HX.out HE8.out HGW.out HNE.out HKL.out HMI.out HDV.out _ _ _ (by omega)⟩⟩
    case measure => simp [intOf]; omega
  ·have e1 : decide (i < F.I.length) = false := y3_ hlt
   go_wp2
   go_ret
   exact ⟨rfl, HBe.out⟩
theorem vfsDevices_calls (A : Option Addr) (c : Nat) (l : List Chg) (w : World) (hC : Kd.C k33 w A l.length l) (hc : l.length ≤ c) (h7 : ∀ x ∈ l, x.f7 ≤ 9223372036854775807) :
  Calls Try.prog 5 #[.slice A l.length c] w fun e w' => e = .returned (.bool true) ∧ Below w.heap.size w w' := by
 cases hf : fewB l 60 with
 | true => exact dev_true A c l w hC hc hf h7
 | false => exact dev_few A c l w hC hc hf
end Go.Proofs.Ytlfldoghomnbkaa.QVfs
