import Derived.Test.YtlfldoghomnbkaaSS9
-- Texts of this seat, what the claim does not reach struck out by a program.
namespace Go.Proofs.Ytlfldoghomnbkaa.QVfs
open Go.RowKit Go.Proofs.YtlfldoghomnbkaaW.PrintWords Go.Proofs.YtlfldoghomnbkaaW.PrintLast Go.Proofs.YtlfldoghomnbkaaW.PrintMore
set_option linter.unusedVariables false
set_option linter.unusedSimpArgs false
theorem Both.noLt {g : Nat} {F : Fs} {R : Ref} {W : World} {us : Array Value} {no : Nat → Prop} (h : Both g F R W us no) {k : Nat} (hk : no k) : k < W.heap.size := by
 obtain ⟨_, _, _, _, _, _, h5⟩ := h
 exact h5 k hk
def Small (x : Chg) : Prop := x.f3.size ≤ 1000000 ∧ x.f4.size ≤ 1000000 ∧ x.f7 ≤ 9223372036854775807
set_option maxHeartbeats 8000000 in
set_option maxRecDepth 100000 in
theorem made_calls (A : Option Addr) (l : List Chg) (cp : Nat) (w : World) (hC : Kd.C k33 w A l.length l) (hc : l.length ≤ cp) (hS : ∀ x ∈ l, Small x) (hl : l.length ≤ 100000) :
  Calls Try.prog 16 #[.slice A l.length cp] w fun e w' => ∃ g us, e = .returned (.tuple #[.pointer (some ⟨g, 0, none⟩), .agg us]) ∧ w.heap.size ≤ g ∧ Both g (Fs.run l) (Ref.run l) w' us (fun _ => False) ∧ Below w.heap.size w w' := by
 have HC := Aside0.mk hC
 have HSM := Aside0.mk hS
 have HL := Aside0.mk hl
 have HCP := Aside0.mk hc
 clear hC hS hl hc
 obtain ⟨H, hH⟩ : ∃ H, H = w.heap.size := ⟨_, rfl⟩
 go_enter Try.func16, Try.ntmps16
 go_wp2_with fail
 obtain ⟨W0, hW0⟩ : ∃ W0, W0 = w.alloc (.cells #[.slice none 0 0, .slice none 0 0, .slice none 0 0, .slice none 0 0, .slice none 0 0, .slice none 0 0] TR) := ⟨_, rfl⟩
 rw [← hW0, ← hH]
 have hs0 : W0.heap.size = H + 1 := by rw [hW0, hH]; simp
 have hb0 : Below H w W0 := by rw [hW0, hH]; exact below_all _
 have hz0 : W0.heap[H]? = some (.cells zR TR (0, 0)) := by rw [hW0, hH]; exact heap_alloc_new _ _
 clear hW0
 refine (new_calls W0).mono ?_
 rintro e w1 ⟨rfl, hF, hB1⟩
 obtain ⟨g, hg⟩ : ∃ g, g = W0.heap.size := ⟨_, rfl⟩
 rw [← hg] at hF hB1 ⊢
 have HF := Aside0.mk hF
 have HB1 := Aside0.mk hB1
 have Hg := Aside0.mk hg
 have HS0 := Aside0.mk hs0
 have HB0 := Aside0.mk hb0
 have HZ0 := Aside0.mk hz0
 have Hh := Aside0.mk hH
 clear hF hB1 hg hs0 hb0 hz0 hH
 go_wp2_with fail
 refine (refNewV_calls w1).mono ?_
 rintro e w2 ⟨us, rfl, hR, hB2⟩
 obtain ⟨A0, c0, A1, c1, A2, c2, A3, c3, A4, c4, A5, c5, rfl⟩ := hR.form
 have hgs : g ≤ w1.heap.size := by rw [Hg.out]; exact HB1.out.size
 have hgH : g = H + 1 := Hg.out.trans HS0.out
 have hBoth : Both g Fs.new Ref.new w2 _ (fun k => k = H) := ⟨fun k => g ≤ k ∧ k < w1.heap.size, fun k => w1.heap.size ≤ k ∧ k < w2.heap.size, HF.out.tight.below hB2, hR.bound, fun k hk => ⟨hk.1, by have := hB2.size; omega, by omega⟩, fun k hk => ⟨hk.2, by omega, by omega⟩, fun k hk => by have := hB2.size; omega⟩
 have HBo := Aside0.mk hBoth
 have HB2 := Aside0.mk hB2
 have HGS := Aside0.mk hgs
 have HGH := Aside0.mk hgH
 clear hR hB2 hBoth hgs hgH
 go_wp2
 obtain ⟨b, hb⟩ : ∃ b, b = w2.heap.size := ⟨_, rfl⟩
 rw [← hb]
 obtain ⟨w4, hw4⟩ : ∃ w4, w4 = w2.alloc (.cells #[.slice A0 Ref.new.N.length c0, .slice A1 Ref.new.L.length c1, .slice A2 Ref.new.Cov.length c2, .slice A3 Ref.new.Dead.length c3, .slice A4 Ref.new.Above.length c4, .slice A5 Ref.new.Firsts.length c5] TR) := ⟨_, rfl⟩
 rw [← hw4]
 have hbe : w4.heap[b]? = some (.cells #[.slice A0 Ref.new.N.length c0, .slice A1 Ref.new.L.length c1, .slice A2 Ref.new.Cov.length c2, .slice A3 Ref.new.Dead.length c3, .slice A4 Ref.new.Above.length c4, .slice A5 Ref.new.Firsts.length c5] TR (0, 0)) := by rw [hw4, hb]; exact heap_alloc_new _ _
 have hb4 : Below w2.heap.size w2 w4 := by rw [hw4]; exact below_all _
 have hs4 : w4.heap.size = w2.heap.size + 1 := by rw [hw4]; simp
 have HM : Aside0 (MadeAt H g b w l 0 w4 #[.slice A0 Ref.new.N.length c0, .slice A1 Ref.new.L.length c1, .slice A2 Ref.new.Cov.length c2, .slice A3 Ref.new.Dead.length c3, .slice A4 Ref.new.Above.length c4, .slice A5 Ref.new.Firsts.length c5]) := ⟨by
  have hgs := HGS.out
  have hgH := HGH.out
  have h2 := HB2.out.size
  refine ⟨HBo.out.more hb4 (fun k hk => ?_), hbe, ?_, ((HB0.out.trans (HB1.out.mono (by omega))).trans (HB2.out.mono (by omega))).trans (hb4.mono (by omega)), by omega⟩
  ·rcases hk with rfl | rfl
   ·exact ⟨by omega, Or.inl rfl⟩
   ·exact ⟨by omega, Or.inr (by omega)⟩
  ·exact (hb4.block H (by omega)).trans ((HB2.out.block H (by omega)).trans ((HB1.out.block H (by omega)).trans HZ0.out))⟩
 have Hb := Aside0.mk (show H < b by have := HGS.out; have := HGH.out; have := HB2.out.size; omega)
 have HGB := Aside0.mk (show g ≤ b by have := HGS.out; have := HB2.out.size; omega)
 clear hw4 hbe hb4 hs4 hb HBo HB2 HF HB1 HZ0 HB0
 go_loopw [6] (fun v6 wr => ∃ (i : Nat) (us : Array Value), v6 = .int .i64 i ∧ i ≤ l.length ∧ Aside0 (MadeAt H g b w l i wr us)) (fun v6 _ => l.length - (intOf v6).toNat)
 case atStart => exact ⟨0, _, rfl, Nat.zero_le _, HM⟩
 case round =>
  obtain ⟨i, us, rfl, hi, HMi⟩ := hrel
  clear HM
  obtain ⟨hBo, hbx, hzx, hbel, hgr⟩ := HMi.out
  obtain ⟨A0, c0, A1, c1, A2, c2, A3, c3, A4, c4, A5, c5, rfl⟩ := hBo.form
  have HBo := Aside0.mk hBo
  have HBX := Aside0.mk hbx
  have HZX := Aside0.mk hzx
  have HBEL := Aside0.mk hbel
  have HGR := Aside0.mk hgr
  clear hBo hbx hzx hbel hgr HMi
  by_cases hlt : i < l.length
  ·have d1 : decide (i < l.length) = true := decide_eq_true hlt
   have hlc := HCP.out
   obtain ⟨ad, he, k0, k1, k2, k3, k4, k5, k6, k7⟩ := at_T33 (Kd.C_below HC.out (Hh.out ▸ HBEL.out)) (i : Int) (by omega) (by omega)
   subst he
   obtain ⟨c, hcv⟩ : ∃ c, c = rd_T33 l (i : Int) := ⟨_, rfl⟩
   rw [← hcv, Int.toNat_natCast] at k0 k1 k2 k3 k4 k5 k6 k7
   have hci : c = l[i] := by rw [hcv]; unfold rd_T33; simp [hlt]
   have HCI := Aside0.mk hci
   have HCV := Aside0.mk hcv
   clear hcv
   have n1 : (0 : Int) ≤ (i : Int) := by omega
   have n2 : (i : Int) < (l.length : Int) := by omega
   have hsm := HSM.out c (hci ▸ List.getElem_mem hlt)
   have hok := run_ok (l.take i)
   have hli : (l.take i).length = i := by simp; omega
   rw [hli] at hok
   have hi5 : i ≤ 100000 := by have := HL.out; omega
   have hD := Both.do_ HBo.out c hok.1 hi5 hsm.1 hsm.2.2 HGR.out
   unfold encC at hD
   have HD := Aside0.mk hD
   have HOK := Aside0.mk hok
   have HSi := Aside0.mk hsm
   have HI5 := Aside0.mk hi5
   clear hD hok hsm hli hi5 hci
   go_wp2_with fail
   refine HD.out.mono ?_
   rintro e w3 ⟨rfl, hBo3, hbel3, hno3, hs3⟩
   have hbx3 := (hno3 b (Or.inr rfl)).trans HBX.out
   have hzx3 := (hno3 H (Or.inl rfl)).trans HZX.out
   have hbw3 : Below H w w3 := HBEL.out.trans (hbel3.mono (by have := HGH.out; omega))
   have HB3 := Aside0.mk hBo3
   have HX3 := Aside0.mk hbx3
   have HZ3 := Aside0.mk hzx3
   have HW3 := Aside0.mk hbw3
   have HG3 := Aside0.mk (Nat.le_trans HGR.out hs3)
   clear k0 k1 k2 k3 k4 k5 k6 k7 hBo3 hbel3 hno3 hs3 hbx3 hzx3 hbw3 HD HBo HBX HZX HBEL HGR
   obtain ⟨ad', he', k0, k1, k2, k3, k4, k5, k6, k7⟩ := at_T33 (Kd.C_below HC.out (Hh.out ▸ HW3.out)) (i : Int) n1 n2
   obtain rfl := Option.some.inj he'
   rw [← HCV.out, Int.toNat_natCast] at k0 k1 k2 k3 k4 k5 k6 k7
   clear he' HCV
   obtain ⟨f0, f1, f2, f3, f4, f5⟩ := boxR_cells HX3.out
   go_wp2_with fail
   refine start_ (n := 14) (S := fun w' => w'.cell? ⟨b, 0, none⟩ = some (.slice A0 (Ref.run (l.take i)).N.length c0) ∧ w'.cell? ⟨b, 1, none⟩ = some (.slice A1 (Ref.run (l.take i)).L.length c1) ∧ w'.cell? ⟨b, 2, none⟩ = some (.slice A2 (Ref.run (l.take i)).Cov.length c2) ∧ w'.cell? ⟨b, 3, none⟩ = some (.slice A3 (Ref.run (l.take i)).Dead.length c3) ∧ w'.cell? ⟨b, 4, none⟩ = some (.slice A4 (Ref.run (l.take i)).Above.length c4) ∧ w'.cell? ⟨b, 5, none⟩ = some (.slice A5 (Ref.run (l.take i)).Firsts.length c5) ∧ w'.cell? (ad.add (i * 8)) = some (.int .i64 c.f0) ∧ w'.cell? ⟨(ad.add (i * 8)).block, (ad.add (i * 8)).off + 1, none⟩ = some (.int .i64 c.f1) ∧ w'.cell? ⟨(ad.add (i * 8)).block, (ad.add (i * 8)).off + 2, none⟩ = some (.int .i64 c.f2) ∧ w'.cell? ⟨(ad.add (i * 8)).block, (ad.add (i * 8)).off + 3, none⟩ = some (.string c.f3) ∧ w'.cell? ⟨(ad.add (i * 8)).block, (ad.add (i * 8)).off + 4, none⟩ = some (.string c.f4) ∧ w'.cell? ⟨(ad.add (i * 8)).block, (ad.add (i * 8)).off + 5, none⟩ = some (.int .i64 c.f5) ∧ w'.cell? ⟨(ad.add (i * 8)).block, (ad.add (i * 8)).off + 6, none⟩ = some (.int .i64 c.f6) ∧ w'.cell? ⟨(ad.add (i * 8)).block, (ad.add (i * 8)).off + 7, none⟩ = some (.int .i64 c.f7)) (ds := [11]) #[false, false, false, false, false, false, false, false, false, false, false, false, false, false] (by kernel_rfl) rfl rfl ⟨f0, f1, f2, f3, f4, f5, k0, k1, k2, k3, k4, k5, k6, k7⟩ ?_
   intro hHeld
   obtain ⟨wd, hwd⟩ : ∃ wd, wd = w3.drew := ⟨_, rfl⟩
   rw [← hwd] at hHeld ⊢
   have hbd : Below w3.heap.size w3 wd := by rw [hwd]; exact below_drew (Below.refl _ _)
   have hsd : wd.heap.size = w3.heap.size := by rw [hwd]; rfl
   clear hwd
   refine take_ (i := 0) (N := some 25) (v := ?_) (a' := ?_) #[true, false, false, false, false, false, false, false, false, false, false, false, false, false] rfl rfl (by kernel_rfl) (fun _ _ _ h => h) (Or.inl ⟨by rfl, ?_⟩) hHeld ?_ ?_
   rotate_left
   ·rintro w' ⟨s0, s1, s2, s3, s4, s5, s6, s7, s8, s9, s10, s11, s12, s13⟩
    go_simp
    with_reducible rfl
   rotate_left
   ·simp only [Act.put, List.setIfInBounds_toArray, List.set_cons_zero, List.set_cons_succ, i64_w, i32_w]
    rfl
   refine pure_ (i := 1) (N := some 26) (v := ?_) (a' := ?_) #[true, true, false, false, false, false, false, false, false, false, false, false, false, false] rfl rfl (by kernel_rfl) (fun _ _ _ h => h) (Or.inl ⟨by rfl, ?_⟩) ?_ ?_
   rotate_left
   ·intro w'
    go_simp
    with_reducible rfl
   rotate_left
   ·simp only [Act.put, List.setIfInBounds_toArray, List.set_cons_zero, List.set_cons_succ, i64_w, i32_w]
    rfl
   refine pure_ (i := 2) (N := some 27) (v := ?_) (a' := ?_) #[true, true, true, false, false, false, false, false, false, false, false, false, false, false] rfl rfl (by kernel_rfl) (fun _ _ _ h => h) (Or.inl ⟨by rfl, ?_⟩) ?_ ?_
   rotate_left
   ·intro w'
    go_simp
    with_reducible rfl
   rotate_left
   ·simp only [Act.put, List.setIfInBounds_toArray, List.set_cons_zero, List.set_cons_succ, i64_w, i32_w]
    rfl
   refine pure_ (i := 3) (N := some 28) (v := ?_) (a' := ?_) #[true, true, true, true, false, false, false, false, false, false, false, false, false, false] rfl rfl (by kernel_rfl) (fun _ _ _ h => h) (Or.inl ⟨by rfl, ?_⟩) ?_ ?_
   rotate_left
   ·intro w'
    go_simp
    with_reducible rfl
   rotate_left
   ·simp only [Act.put, List.setIfInBounds_toArray, List.set_cons_zero, List.set_cons_succ, i64_w, i32_w]
    rfl
   refine take_ (i := 4) (N := some 29) (v := ?_) (a' := ?_) #[true, true, true, true, true, false, false, false, false, false, false, false, false, false] rfl rfl (by kernel_rfl) (fun _ _ _ h => h) (Or.inl ⟨by rfl, ?_⟩) hHeld ?_ ?_
   rotate_left
   ·rintro w' ⟨s0, s1, s2, s3, s4, s5, s6, s7, s8, s9, s10, s11, s12, s13⟩
    go_simp
    with_reducible rfl
   rotate_left
   ·simp only [Act.put, List.setIfInBounds_toArray, List.set_cons_zero, List.set_cons_succ, i64_w, i32_w]
    rfl
   have HBd := Aside0.mk (HB3.out.below hbd)
   refine join_ (σ := Array Value × Value) 3 #[true, true, true, true, true, true, true, true, true, true, true, false, false, false] (fun s => [(30, .tuple #[.agg s.1, (.int .i64 ((Ref.run (l.take i)).doN c)), (.int .i64 ((Ref.run (l.take i)).wrongE c))]), (24, .tuple #[.agg s.1, (.int .i64 ((Ref.run (l.take i)).doN c)), (.int .i64 ((Ref.run (l.take i)).wrongE c))]), (31, .agg s.1), (32, (.int .i64 ((Ref.run (l.take i)).doN c))), (33, (.int .i64 ((Ref.run (l.take i)).wrongE c))), (7, s.2)]) (MadeJ g H b ((Fs.run (l.take i)).doF c) ((Ref.run (l.take i)).doR c) wd) ?_ ?_
   ·rintro ⟨us', p⟩ w' ⟨gz, hp, hBJ, hzz, hgz, hbJ⟩
    simp only at hp hBJ
    subst hp
    obtain ⟨A0', c0', A1', c1', A2', c2', A3', c3', A4', c4', A5', c5', rfl⟩ := hBJ.form
    refine norm_ (a' := ?_) ?_ ?_
    rotate_left
    ·show putAll _ _ = _
     simp only [putAll, Act.put, List.setIfInBounds_toArray, List.set_cons_zero, List.set_cons_succ]
     rfl
    obtain ⟨z0, z1, z2, z3, z4, z5⟩ := boxR_cells hzz
    have zz0 := blk_frozen hzz 0
    have zz1 := blk_frozen hzz 1
    have zz2 := blk_frozen hzz 2
    have zz3 := blk_frozen hzz 3
    have zz4 := blk_frozen hzz 4
    have zz5 := blk_frozen hzz 5
    refine last_ (i := 11) (N := none) #[true, true, true, true, true, true, true, true, true, true, true, true, false, false] rfl rfl (by kernel_rfl) (by decide) (fun K hK => ?_)
    refine skip_ (w1 := ((((((w'.setCell ⟨gz, 0, none⟩ (.slice A0' ((Ref.run (l.take i)).doR c).N.length c0')).setCell ⟨gz, 1, none⟩ (.slice A1' ((Ref.run (l.take i)).doR c).L.length c1')).setCell ⟨gz, 2, none⟩ (.slice A2' ((Ref.run (l.take i)).doR c).Cov.length c2')).setCell ⟨gz, 3, none⟩ (.slice A3' ((Ref.run (l.take i)).doR c).Dead.length c3')).setCell ⟨gz, 4, none⟩ (.slice A4' ((Ref.run (l.take i)).doR c).Above.length c4')).setCell ⟨gz, 5, none⟩ (.slice A5' ((Ref.run (l.take i)).doR c).Firsts.length c5'))) (by rfl) rfl (by go_simp) ?_
    refine hK.out _ _ ?_
    clear hK K
    refine pure_ (i := 12) (N := some 8) (v := ?_) (a' := ?_) #[true, true, true, true, true, true, true, true, true, true, true, true, true, false] rfl rfl (by kernel_rfl) (fun _ _ _ h => h) (Or.inl ⟨by rfl, ?_⟩) ?_ ?_
    rotate_left
    ·intro w'
     go_simp
     with_reducible rfl
    rotate_left
    ·simp only [Act.put, List.setIfInBounds_toArray, List.set_cons_zero, List.set_cons_succ, i64_w, i32_w]
     rfl
    refine pure_ (i := 13) (N := some 9) (v := ?_) (a' := ?_) #[true, true, true, true, true, true, true, true, true, true, true, true, true, true] rfl rfl (by kernel_rfl) (fun _ _ _ h => h) (Or.inl ⟨by rfl, ?_⟩) ?_ ?_
    rotate_left
    ·intro w'
     go_simp
     with_reducible rfl
    rotate_left
    ·simp only [Act.put, List.setIfInBounds_toArray, List.set_cons_zero, List.set_cons_succ, i64_w, i32_w]
     rfl
    refine done_ (by kernel_rfl) ?_
    obtain ⟨w5, hw5⟩ : ∃ w5, w5 = sixW w' gz (.slice A0' ((Ref.run (l.take i)).doR c).N.length c0') (.slice A1' ((Ref.run (l.take i)).doR c).L.length c1') (.slice A2' ((Ref.run (l.take i)).doR c).Cov.length c2') (.slice A3' ((Ref.run (l.take i)).doR c).Dead.length c3') (.slice A4' ((Ref.run (l.take i)).doR c).Above.length c4') (.slice A5' ((Ref.run (l.take i)).doR c).Firsts.length c5') := ⟨_, rfl⟩
    unfold sixW at hw5
    rw [← hw5]
    have hbw := hbd.trans (hbJ.mono (by omega))
    have hg5 : w5.heap[gz]? = some (.cells #[.slice A0' ((Ref.run (l.take i)).doR c).N.length c0', .slice A1' ((Ref.run (l.take i)).doR c).L.length c1', .slice A2' ((Ref.run (l.take i)).doR c).Cov.length c2', .slice A3' ((Ref.run (l.take i)).doR c).Dead.length c3', .slice A4' ((Ref.run (l.take i)).doR c).Above.length c4', .slice A5' ((Ref.run (l.take i)).doR c).Firsts.length c5'] TR (0, 0)) := by rw [hw5]; exact six_set hzz rfl rfl
    have hbl := blk_lt HX3.out
    have hbg : gz ≠ b := by omega
    have hHg : gz ≠ H := by have := blk_lt HZ3.out; omega
    have hx5 : w5.heap[b]? = some (.cells #[.slice A0 (Ref.run (l.take i)).N.length c0, .slice A1 (Ref.run (l.take i)).L.length c1, .slice A2 (Ref.run (l.take i)).Cov.length c2, .slice A3 (Ref.run (l.take i)).Dead.length c3, .slice A4 (Ref.run (l.take i)).Above.length c4, .slice A5 (Ref.run (l.take i)).Firsts.length c5] TR (0, 0)) := by rw [hw5]; exact (six_far (b := gz) b hbg.symm).trans ((hbw.block b hbl).trans HX3.out)
    have hz5 : w5.heap[H]? = some (.cells zR TR (0, 0)) := by rw [hw5]; exact (six_far (b := gz) H hHg.symm).trans ((hbw.block H (blk_lt HZ3.out)).trans HZ3.out)
    have hB5 : Both g ((Fs.run (l.take i)).doF c) ((Ref.run (l.take i)).doR c) w5 #[.slice A0' ((Ref.run (l.take i)).doR c).N.length c0', .slice A1' ((Ref.run (l.take i)).doR c).L.length c1', .slice A2' ((Ref.run (l.take i)).doR c).Cov.length c2', .slice A3' ((Ref.run (l.take i)).doR c).Dead.length c3', .slice A4' ((Ref.run (l.take i)).doR c).Above.length c4', .slice A5' ((Ref.run (l.take i)).doR c).Firsts.length c5'] (fun k => (k = H ∨ k = b) ∨ k = gz) := by rw [hw5]; exact hBJ.six (Or.inr rfl)
    have hbel5 : Below H w w5 := by rw [hw5]; exact six_below (b := gz) (HW3.out.trans (hbw.mono (by have := blk_lt HZ3.out; omega))) (by have := blk_lt HZ3.out; omega)
    have hs5 : g ≤ w5.heap.size := by rw [hw5]; simp only [World.size_setCell]; have := HG3.out; have := hbw.size; omega
    have HB5 := Aside0.mk hB5
    have HX5 := Aside0.mk hx5
    have HZ5 := Aside0.mk hz5
    have HE5 := Aside0.mk hbel5
    have HS5 := Aside0.mk hs5
    have HNE := Aside0.mk hHg
    clear f0 f1 f2 f3 f4 f5 k0 k1 k2 k3 k4 k5 k6 k7 z0 z1 z2 z3 z4 z5 zz0 zz1 zz2 zz3 zz4 zz5 hw5 hbw hHeld hbd hsd hBJ hzz hgz hbJ hB5 hx5 hz5 hbel5 hs5 hbl hHg HB3 HX3 HZ3 HW3 HG3 HBd
    obtain ⟨z0, z1, z2, z3, z4, z5⟩ := boxR_cells hg5
    obtain ⟨f0, f1, f2, f3, f4, f5⟩ := boxR_cells HX5.out
    have zb0 := blk_frozen HX5.out 0
    have zb1 := blk_frozen HX5.out 1
    have zb2 := blk_frozen HX5.out 2
    have zb3 := blk_frozen HX5.out 3
    have zb4 := blk_frozen HX5.out 4
    have zb5 := blk_frozen HX5.out 5
    clear hg5
    have hi6 : i ≤ 100000 := HI5.out
    go_wp2
    go_roundw
    case rel =>
     refine ⟨i + 1, #[.slice A0' ((Ref.run (l.take i)).doR c).N.length c0', .slice A1' ((Ref.run (l.take i)).doR c).L.length c1', .slice A2' ((Ref.run (l.take i)).doR c).Cov.length c2', .slice A3' ((Ref.run (l.take i)).doR c).Dead.length c3', .slice A4' ((Ref.run (l.take i)).doR c).Above.length c4', .slice A5' ((Ref.run (l.take i)).doR c).Firsts.length c5'], by go_num, by omega, ⟨?_⟩⟩
     have hrun : Fs.run (l.take (i + 1)) = ((Fs.run (l.take i)).doF c) ∧ Ref.run (l.take (i + 1)) = ((Ref.run (l.take i)).doR c) := by rw [take_snocC l i hlt, Fs.run_snoc, Ref.run_snoc, HCI.out]; exact ⟨rfl, rfl⟩
     refine ⟨?_, six_set HX5.out rfl rfl, (six_far (b := b) H (by have := Hb.out; omega)).trans HZ5.out, six_below (b := b) HE5.out (by have := Hb.out; omega), ?_⟩
     ·rw [hrun.1, hrun.2]; exact Both.six (HB5.out.less (fun k hk => Or.inl hk)) (Or.inr rfl)
     ·simp only [World.size_setCell]; exact HS5.out
    case measure => simp [intOf]; omega
   ·intro hCont
    refine two_ (i := 5) (j := 10) (Ni := some 30) (Nj := some 7) #[true, true, true, true, true, true, false, false, false, false, false, false, false, false] #[true, true, true, true, true, false, false, false, false, false, true, false, false, false] rfl rfl rfl rfl (by kernel_rfl) (by decide) (by decide) (fun K hK => ?_) (fun K hK => ?_)
    ·skip
     have hA := Both.refDo (HBd.out) c HOK.out.2 (by have := HI5.out; omega) HSi.out.1 HSi.out.2.1 HSi.out.2.2
     unfold encC at hA
     refine goes_ Try.func19 (by kernel_rfl) rfl #[.agg #[.slice A0 (Ref.run (l.take i)).N.length c0, .slice A1 (Ref.run (l.take i)).L.length c1, .slice A2 (Ref.run (l.take i)).Cov.length c2, .slice A3 (Ref.run (l.take i)).Dead.length c3, .slice A4 (Ref.run (l.take i)).Above.length c4, .slice A5 (Ref.run (l.take i)).Firsts.length c5], .agg #[.int .i64 c.f0, .int .i64 c.f1, .int .i64 c.f2, .string c.f3, .string c.f4, .int .i64 c.f5, .int .i64 c.f6, .int .i64 c.f7]] (by rfl) rfl rfl (by simp only [List.map_toArray, List.map_cons, List.map_nil]; rfl) ?_
     refine hA.mono ?_
     rintro e w2' ⟨us', rfl, hBA, hb2⟩
     refine ⟨_, rfl, ?_⟩
     refine hK.out _ _ ⟨pw_cell_below hb2 hHeld.1, pw_cell_below hb2 hHeld.2.1, pw_cell_below hb2 hHeld.2.2.1, pw_cell_below hb2 hHeld.2.2.2.1, pw_cell_below hb2 hHeld.2.2.2.2.1, pw_cell_below hb2 hHeld.2.2.2.2.2.1, pw_cell_below hb2 hHeld.2.2.2.2.2.2.1, pw_cell_below hb2 hHeld.2.2.2.2.2.2.2.1, pw_cell_below hb2 hHeld.2.2.2.2.2.2.2.2.1, pw_cell_below hb2 hHeld.2.2.2.2.2.2.2.2.2.1, pw_cell_below hb2 hHeld.2.2.2.2.2.2.2.2.2.2.1, pw_cell_below hb2 hHeld.2.2.2.2.2.2.2.2.2.2.2.1, pw_cell_below hb2 hHeld.2.2.2.2.2.2.2.2.2.2.2.2.1, pw_cell_below hb2 hHeld.2.2.2.2.2.2.2.2.2.2.2.2.2⟩ (fun _ => ?_)
     clear hK K hA
     refine norm_ (a' := ?_) ?_ ?_
     rotate_left
     ·show Act.put _ (some 30) _ = _
      simp only [Act.put, List.setIfInBounds_toArray, List.set_cons_zero, List.set_cons_succ]
      rfl
     refine pure_ (i := 6) (N := some 24) (v := ?_) (a' := ?_) #[true, true, true, true, true, true, true, false, false, false, false, false, false, false] rfl rfl (by kernel_rfl) (fun _ _ _ h => h) (Or.inl ⟨by rfl, ?_⟩) ?_ ?_
     rotate_left
     ·intro w'
      go_simp
      with_reducible rfl
     rotate_left
     ·simp only [Act.put, List.setIfInBounds_toArray, List.set_cons_zero, List.set_cons_succ, i64_w, i32_w]
      rfl
     refine pure_ (i := 7) (N := some 31) (v := ?_) (a' := ?_) #[true, true, true, true, true, true, true, true, false, false, false, false, false, false] rfl rfl (by kernel_rfl) (fun _ _ _ h => h) (Or.inl ⟨by rfl, ?_⟩) ?_ ?_
     rotate_left
     ·intro w'
      go_simp
      with_reducible rfl
     rotate_left
     ·simp only [Act.put, List.setIfInBounds_toArray, List.set_cons_zero, List.set_cons_succ, i64_w, i32_w]
      rfl
     refine pure_ (i := 8) (N := some 32) (v := ?_) (a' := ?_) #[true, true, true, true, true, true, true, true, true, false, false, false, false, false] rfl rfl (by kernel_rfl) (fun _ _ _ h => h) (Or.inl ⟨by rfl, ?_⟩) ?_ ?_
     rotate_left
     ·intro w'
      go_simp
      with_reducible rfl
     rotate_left
     ·simp only [Act.put, List.setIfInBounds_toArray, List.set_cons_zero, List.set_cons_succ, i64_w, i32_w]
      rfl
     refine pure_ (i := 9) (N := some 33) (v := ?_) (a' := ?_) #[true, true, true, true, true, true, true, true, true, true, false, false, false, false] rfl rfl (by kernel_rfl) (fun _ _ _ h => h) (Or.inl ⟨by rfl, ?_⟩) ?_ ?_
     rotate_left
     ·intro w'
      go_simp
      with_reducible rfl
     rotate_left
     ·simp only [Act.put, List.setIfInBounds_toArray, List.set_cons_zero, List.set_cons_succ, i64_w, i32_w]
      rfl
     refine one_ (i := 10) (N := some 7) #[true, true, true, true, true, true, true, true, true, true, true, false, false, false] rfl rfl (by kernel_rfl) (by decide) (fun K hK => ?_)
     refine value_ (v := .pointer (some ⟨w2'.heap.size, 0, none⟩)) (w1 := w2'.alloc (.cells #[.slice none 0 0, .slice none 0 0, .slice none 0 0, .slice none 0 0, .slice none 0 0, .slice none 0 0] TR)) (by rfl) rfl (by go_simp) ?_
     have hb3 := hb2.alloc hb2.size (.cells #[.slice none 0 0, .slice none 0 0, .slice none 0 0, .slice none 0 0, .slice none 0 0, .slice none 0 0] TR)
     refine hK.out _ _ ⟨pw_cell_below hb3 hHeld.1, pw_cell_below hb3 hHeld.2.1, pw_cell_below hb3 hHeld.2.2.1, pw_cell_below hb3 hHeld.2.2.2.1, pw_cell_below hb3 hHeld.2.2.2.2.1, pw_cell_below hb3 hHeld.2.2.2.2.2.1, pw_cell_below hb3 hHeld.2.2.2.2.2.2.1, pw_cell_below hb3 hHeld.2.2.2.2.2.2.2.1, pw_cell_below hb3 hHeld.2.2.2.2.2.2.2.2.1, pw_cell_below hb3 hHeld.2.2.2.2.2.2.2.2.2.1, pw_cell_below hb3 hHeld.2.2.2.2.2.2.2.2.2.2.1, pw_cell_below hb3 hHeld.2.2.2.2.2.2.2.2.2.2.2.1, pw_cell_below hb3 hHeld.2.2.2.2.2.2.2.2.2.2.2.2.1, pw_cell_below hb3 hHeld.2.2.2.2.2.2.2.2.2.2.2.2.2⟩ (fun _ => ?_)
     clear hK K
     exact hCont (us', .pointer (some ⟨w2'.heap.size, 0, none⟩)) _ ⟨w2'.heap.size, rfl, hBA.more (below_all _) (fun k hk => ⟨by simp; rcases hk with hk | hk; exact Nat.lt_succ_of_lt (hBA.noLt hk); omega, hk.elim Or.inl (fun q => Or.inr (by omega))⟩), heap_alloc_new _ _, hb2.size, hb3⟩
    ·skip
     refine value_ (v := .pointer (some ⟨wd.heap.size, 0, none⟩)) (w1 := wd.alloc (.cells #[.slice none 0 0, .slice none 0 0, .slice none 0 0, .slice none 0 0, .slice none 0 0, .slice none 0 0] TR)) (by rfl) rfl (by go_simp) ?_
     have hb0 : Below wd.heap.size wd (wd.alloc (.cells #[.slice none 0 0, .slice none 0 0, .slice none 0 0, .slice none 0 0, .slice none 0 0, .slice none 0 0] TR)) := below_all _
     refine hK.out _ _ ⟨pw_cell_below hb0 hHeld.1, pw_cell_below hb0 hHeld.2.1, pw_cell_below hb0 hHeld.2.2.1, pw_cell_below hb0 hHeld.2.2.2.1, pw_cell_below hb0 hHeld.2.2.2.2.1, pw_cell_below hb0 hHeld.2.2.2.2.2.1, pw_cell_below hb0 hHeld.2.2.2.2.2.2.1, pw_cell_below hb0 hHeld.2.2.2.2.2.2.2.1, pw_cell_below hb0 hHeld.2.2.2.2.2.2.2.2.1, pw_cell_below hb0 hHeld.2.2.2.2.2.2.2.2.2.1, pw_cell_below hb0 hHeld.2.2.2.2.2.2.2.2.2.2.1, pw_cell_below hb0 hHeld.2.2.2.2.2.2.2.2.2.2.2.1, pw_cell_below hb0 hHeld.2.2.2.2.2.2.2.2.2.2.2.2.1, pw_cell_below hb0 hHeld.2.2.2.2.2.2.2.2.2.2.2.2.2⟩ (fun _ => ?_)
     clear hK K
     refine norm_ (a' := ?_) ?_ ?_
     rotate_left
     ·show Act.put _ (some 7) _ = _
      simp only [Act.put, List.setIfInBounds_toArray, List.set_cons_zero, List.set_cons_succ]
      rfl
     have hbi := heap_alloc_new wd (.cells #[.slice none 0 0, .slice none 0 0, .slice none 0 0, .slice none 0 0, .slice none 0 0, .slice none 0 0] TR)
     obtain ⟨wa, hwa⟩ : ∃ wa, wa = wd.alloc (.cells #[.slice none 0 0, .slice none 0 0, .slice none 0 0, .slice none 0 0, .slice none 0 0, .slice none 0 0] TR) := ⟨_, rfl⟩
     have hsa : wa.heap.size = wd.heap.size + 1 := by rw [hwa]; simp
     have hBa : Both g ((Fs.run (l.take i)).doF c) (Ref.run (l.take i)) wa #[.slice A0 (Ref.run (l.take i)).N.length c0, .slice A1 (Ref.run (l.take i)).L.length c1, .slice A2 (Ref.run (l.take i)).Cov.length c2, .slice A3 (Ref.run (l.take i)).Dead.length c3, .slice A4 (Ref.run (l.take i)).Above.length c4, .slice A5 (Ref.run (l.take i)).Firsts.length c5] (fun k => (k = H ∨ k = b) ∨ k = wd.heap.size) := by rw [hwa]; exact HBd.out.more (below_all _) (fun k hk => ⟨by simp; rcases hk with hk | hk; exact Nat.lt_succ_of_lt (HBd.out.noLt hk); omega, hk.elim Or.inl (fun q => Or.inr (by omega))⟩)
     rw [← hwa] at hb0 hbi ⊢
     clear hwa
     refine one_ (i := 5) (N := some 30) #[true, true, true, true, true, true, false, false, false, false, true, false, false, false] rfl rfl (by kernel_rfl) (by decide) (fun K hK => ?_)
     have hA := Both.refDo hBa c HOK.out.2 (by have := HI5.out; omega) HSi.out.1 HSi.out.2.1 HSi.out.2.2
     unfold encC at hA
     refine goes_ Try.func19 (by kernel_rfl) rfl #[.agg #[.slice A0 (Ref.run (l.take i)).N.length c0, .slice A1 (Ref.run (l.take i)).L.length c1, .slice A2 (Ref.run (l.take i)).Cov.length c2, .slice A3 (Ref.run (l.take i)).Dead.length c3, .slice A4 (Ref.run (l.take i)).Above.length c4, .slice A5 (Ref.run (l.take i)).Firsts.length c5], .agg #[.int .i64 c.f0, .int .i64 c.f1, .int .i64 c.f2, .string c.f3, .string c.f4, .int .i64 c.f5, .int .i64 c.f6, .int .i64 c.f7]] (by rfl) rfl rfl (by simp only [List.map_toArray, List.map_cons, List.map_nil]; rfl) ?_
     refine hA.mono ?_
     rintro e w2' ⟨us', rfl, hBA, hb2⟩
     refine ⟨_, rfl, ?_⟩
     have hb3 := hb0.trans (hb2.mono (by omega))
     refine hK.out _ _ ⟨pw_cell_below hb3 hHeld.1, pw_cell_below hb3 hHeld.2.1, pw_cell_below hb3 hHeld.2.2.1, pw_cell_below hb3 hHeld.2.2.2.1, pw_cell_below hb3 hHeld.2.2.2.2.1, pw_cell_below hb3 hHeld.2.2.2.2.2.1, pw_cell_below hb3 hHeld.2.2.2.2.2.2.1, pw_cell_below hb3 hHeld.2.2.2.2.2.2.2.1, pw_cell_below hb3 hHeld.2.2.2.2.2.2.2.2.1, pw_cell_below hb3 hHeld.2.2.2.2.2.2.2.2.2.1, pw_cell_below hb3 hHeld.2.2.2.2.2.2.2.2.2.2.1, pw_cell_below hb3 hHeld.2.2.2.2.2.2.2.2.2.2.2.1, pw_cell_below hb3 hHeld.2.2.2.2.2.2.2.2.2.2.2.2.1, pw_cell_below hb3 hHeld.2.2.2.2.2.2.2.2.2.2.2.2.2⟩ (fun _ => ?_)
     clear hK K hA
     refine norm_ (a' := ?_) ?_ ?_
     rotate_left
     ·show Act.put _ (some 30) _ = _
      simp only [Act.put, List.setIfInBounds_toArray, List.set_cons_zero, List.set_cons_succ]
      rfl
     refine pure_ (i := 6) (N := some 24) (v := ?_) (a' := ?_) #[true, true, true, true, true, true, true, false, false, false, true, false, false, false] rfl rfl (by kernel_rfl) (fun _ _ _ h => h) (Or.inl ⟨by rfl, ?_⟩) ?_ ?_
     rotate_left
     ·intro w'
      go_simp
      with_reducible rfl
     rotate_left
     ·simp only [Act.put, List.setIfInBounds_toArray, List.set_cons_zero, List.set_cons_succ, i64_w, i32_w]
      rfl
     refine pure_ (i := 7) (N := some 31) (v := ?_) (a' := ?_) #[true, true, true, true, true, true, true, true, false, false, true, false, false, false] rfl rfl (by kernel_rfl) (fun _ _ _ h => h) (Or.inl ⟨by rfl, ?_⟩) ?_ ?_
     rotate_left
     ·intro w'
      go_simp
      with_reducible rfl
     rotate_left
     ·simp only [Act.put, List.setIfInBounds_toArray, List.set_cons_zero, List.set_cons_succ, i64_w, i32_w]
      rfl
     refine pure_ (i := 8) (N := some 32) (v := ?_) (a' := ?_) #[true, true, true, true, true, true, true, true, true, false, true, false, false, false] rfl rfl (by kernel_rfl) (fun _ _ _ h => h) (Or.inl ⟨by rfl, ?_⟩) ?_ ?_
     rotate_left
     ·intro w'
      go_simp
      with_reducible rfl
     rotate_left
     ·simp only [Act.put, List.setIfInBounds_toArray, List.set_cons_zero, List.set_cons_succ, i64_w, i32_w]
      rfl
     refine pure_ (i := 9) (N := some 33) (v := ?_) (a' := ?_) #[true, true, true, true, true, true, true, true, true, true, true, false, false, false] rfl rfl (by kernel_rfl) (fun _ _ _ h => h) (Or.inl ⟨by rfl, ?_⟩) ?_ ?_
     rotate_left
     ·intro w'
      go_simp
      with_reducible rfl
     rotate_left
     ·simp only [Act.put, List.setIfInBounds_toArray, List.set_cons_zero, List.set_cons_succ, i64_w, i32_w]
      rfl
     exact hCont (us', .pointer (some ⟨wd.heap.size, 0, none⟩)) _ ⟨wd.heap.size, rfl, hBA, (hb2.block _ (by omega)).trans hbi, Nat.le_refl _, hb3⟩
  ·have d1 : decide (i < l.length) = false := decide_eq_false hlt
   obtain rfl : i = l.length := by omega
   obtain ⟨f0, f1, f2, f3, f4, f5⟩ := boxR_cells HBX.out
   obtain ⟨r0, r1, r2, r3, r4, r5⟩ := boxR_cells HZX.out
   have zr0 := blk_frozen HZX.out 0
   have zr1 := blk_frozen HZX.out 1
   have zr2 := blk_frozen HZX.out 2
   have zr3 := blk_frozen HZX.out 3
   have zr4 := blk_frozen HZX.out 4
   have zr5 := blk_frozen HZX.out 5
   go_wp2_with fail
   refine start_ (n := 4) (S := fun w' => w'.cell? ⟨b, 0, none⟩ = some (.slice A0 (Ref.run (l.take l.length)).N.length c0) ∧ w'.cell? ⟨b, 1, none⟩ = some (.slice A1 (Ref.run (l.take l.length)).L.length c1) ∧ w'.cell? ⟨b, 2, none⟩ = some (.slice A2 (Ref.run (l.take l.length)).Cov.length c2) ∧ w'.cell? ⟨b, 3, none⟩ = some (.slice A3 (Ref.run (l.take l.length)).Dead.length c3) ∧ w'.cell? ⟨b, 4, none⟩ = some (.slice A4 (Ref.run (l.take l.length)).Above.length c4) ∧ w'.cell? ⟨b, 5, none⟩ = some (.slice A5 (Ref.run (l.take l.length)).Firsts.length c5)) (ds := [3]) #[false, false, false, false] (by kernel_rfl) rfl rfl ⟨f0, f1, f2, f3, f4, f5⟩ ?_
   intro hHeld
   obtain ⟨wd, hwd⟩ : ∃ wd, wd = wr.drew := ⟨_, rfl⟩
   rw [← hwd] at hHeld ⊢
   have hbd : Below wr.heap.size wr wd := by rw [hwd]; exact below_drew (Below.refl _ _)
   have hsd : wd.heap.size = wr.heap.size := by rw [hwd]; rfl
   clear hwd
   refine pure_ (i := 0) (N := some 35) (v := ?_) (a' := ?_) #[true, false, false, false] rfl rfl (by kernel_rfl) (fun _ _ _ h => h) (Or.inl ⟨by rfl, ?_⟩) ?_ ?_
   rotate_left
   ·intro w'
    go_simp
    with_reducible rfl
   rotate_left
   ·simp only [Act.put, List.setIfInBounds_toArray, List.set_cons_zero, List.set_cons_succ, i64_w, i32_w]
    rfl
   refine take_ (i := 1) (N := some 36) (v := ?_) (a' := ?_) #[true, true, false, false] rfl rfl (by kernel_rfl) (fun _ _ _ h => h) (Or.inl ⟨by rfl, ?_⟩) hHeld ?_ ?_
   rotate_left
   ·rintro w' ⟨s0, s1, s2, s3, s4, s5⟩
    go_simp
    with_reducible rfl
   rotate_left
   ·simp only [Act.put, List.setIfInBounds_toArray, List.set_cons_zero, List.set_cons_succ, i64_w, i32_w]
    rfl
   refine pure_ (i := 2) (N := some 2) (v := ?_) (a' := ?_) #[true, true, true, false] rfl rfl (by kernel_rfl) (fun _ _ _ h => h) (Or.inl ⟨by rfl, ?_⟩) ?_ ?_
   rotate_left
   ·intro w'
    go_simp
    with_reducible rfl
   rotate_left
   ·simp only [Act.put, List.setIfInBounds_toArray, List.set_cons_zero, List.set_cons_succ, i64_w, i32_w]
    rfl
   have y0 : wd.cell? ⟨H, 0, none⟩ = some (.slice none 0 0) := pw_cell_below hbd r0
   have y1 : wd.cell? ⟨H, 1, none⟩ = some (.slice none 0 0) := pw_cell_below hbd r1
   have y2 : wd.cell? ⟨H, 2, none⟩ = some (.slice none 0 0) := pw_cell_below hbd r2
   have y3 : wd.cell? ⟨H, 3, none⟩ = some (.slice none 0 0) := pw_cell_below hbd r3
   have y4 : wd.cell? ⟨H, 4, none⟩ = some (.slice none 0 0) := pw_cell_below hbd r4
   have y5 : wd.cell? ⟨H, 5, none⟩ = some (.slice none 0 0) := pw_cell_below hbd r5
   have hzd := (hbd.block H (blk_lt HZX.out)).trans HZX.out
   have yz0 := blk_frozen hzd 0
   have yz1 := blk_frozen hzd 1
   have yz2 := blk_frozen hzd 2
   have yz3 := blk_frozen hzd 3
   have yz4 := blk_frozen hzd 4
   have yz5 := blk_frozen hzd 5
   refine last_ (i := 3) (N := none) #[true, true, true, true] rfl rfl (by kernel_rfl) (by decide) (fun K hK => ?_)
   refine skip_ (w1 := ((((((wd.setCell ⟨H, 0, none⟩ (.slice A0 (Ref.run (l.take l.length)).N.length c0)).setCell ⟨H, 1, none⟩ (.slice A1 (Ref.run (l.take l.length)).L.length c1)).setCell ⟨H, 2, none⟩ (.slice A2 (Ref.run (l.take l.length)).Cov.length c2)).setCell ⟨H, 3, none⟩ (.slice A3 (Ref.run (l.take l.length)).Dead.length c3)).setCell ⟨H, 4, none⟩ (.slice A4 (Ref.run (l.take l.length)).Above.length c4)).setCell ⟨H, 5, none⟩ (.slice A5 (Ref.run (l.take l.length)).Firsts.length c5))) (by rfl) rfl (by go_simp) ?_
   refine hK.out _ _ ?_
   clear hK K
   refine done_ (by kernel_rfl) ?_
   go_wp2
   refine bodyPost_ret (v := .tuple #[.pointer (some ⟨g, 0, none⟩), .agg #[.slice A0 (Ref.run (l.take l.length)).N.length c0, .slice A1 (Ref.run (l.take l.length)).L.length c1, .slice A2 (Ref.run (l.take l.length)).Cov.length c2, .slice A3 (Ref.run (l.take l.length)).Dead.length c3, .slice A4 (Ref.run (l.take l.length)).Above.length c4, .slice A5 (Ref.run (l.take l.length)).Firsts.length c5]]) (by simp [results, Try.results16, go_sem, y0, y1, y2, y3, y4, y5]) rfl ⟨g, #[.slice A0 (Ref.run (l.take l.length)).N.length c0, .slice A1 (Ref.run (l.take l.length)).L.length c1, .slice A2 (Ref.run (l.take l.length)).Cov.length c2, .slice A3 (Ref.run (l.take l.length)).Dead.length c3, .slice A4 (Ref.run (l.take l.length)).Above.length c4, .slice A5 (Ref.run (l.take l.length)).Firsts.length c5], rfl, by have := HGH.out; have := Hh.out; omega, ?_, ?_⟩
   ·have h0 := HBo.out.below hbd
    simp only [List.take_length] at h0 ⊢
    exact Both.less (Both.six h0 (Or.inl rfl)) (fun k hk => hk.elim)
   ·rw [← Hh.out]; exact six_below (b := H) (HBEL.out.trans (hbd.mono (by have := HGR.out; have := HGH.out; omega))) (Nat.le_refl _)
end Go.Proofs.Ytlfldoghomnbkaa.QVfs
