/- VfsMany, the walk. -/
import Derived.Test.YtlfldoghomnbkaaMany1
import Derived.Test.YtlfldoghomnbkaaNAwake
namespace Go.Proofs.Ytlfldoghomnbkaa.QVfs
open Go.RowKit Go.Proofs.YtlfldoghomnbkaaW.PrintWords Go.Proofs.YtlfldoghomnbkaaW.PrintLast Go.Proofs.YtlfldoghomnbkaaW.PrintMore
set_option linter.unusedVariables false
set_option linter.unusedSimpArgs false

theorem name_conv (wr : World) (k : Nat) (hk : k < 320) :
    (convert 31 9 (.slice (some ⟨wr.heap.size, 0, none⟩) 2 2)).run Try.prog (wr.alloc (.cells #[.int .u8 (97 + (k : Int) % 26), .int .u8 (97 + (k : Int) / 26)] 5)) = .ok (.string (nameN k)) (wr.alloc (.cells #[.int .u8 (97 + (k : Int) % 26), .int .u8 (97 + (k : Int) / 26)] 5)) := by
  have hb := heap_alloc_new wr (.cells #[.int .u8 (97 + (k : Int) % 26), .int .u8 (97 + (k : Int) / 26)] 5)
  refine run_convert_bytes_back _ 31 9 5 ⟨wr.heap.size, 0, none⟩ 2 [UInt8.ofNat (97 + k % 26), UInt8.ofNat (97 + k / 26)] Try.underlying31 Try.underlying5 Try.underlying9 ?_
  intro j hj
  have e0 : ((UInt8.ofNat (97 + k % 26)).toNat : Int) = 97 + (k : Int) % 26 := by rw [UInt8.toNat_ofNat']; omega
  have e1 : ((UInt8.ofNat (97 + k / 26)).toNat : Int) = 97 + (k : Int) / 26 := by rw [UInt8.toNat_ofNat']; omega
  match j, hj with
  | 0, _ => show World.cell? _ _ = some (.int .u8 ((UInt8.ofNat (97 + k % 26)).toNat : Int)); rw [e0]; exact (blk_cell hb 0).trans rfl
  | 1, _ => show World.cell? _ _ = some (.int .u8 ((UInt8.ofNat (97 + k / 26)).toNat : Int)); rw [e1]; exact (blk_cell hb 1).trans rfl
theorem u_wrap {v : Int} (h : 0 ≤ v ∧ v ≤ 4294967295) : wrap64 v = v := by unfold wrap64; omega
def U32s (l : List Int) : Prop := ∀ y ∈ l, 0 ≤ y ∧ y ≤ 4294967295
def Mid (base g : Nat) (dirs : Bool) (i : Nat) (wr : World) : Prop := ∃ F, FsAt base g (fun k => base ≤ k) F wr ∧ Inv dirs F (min i 299)
set_option maxHeartbeats 4000000 in
set_option maxRecDepth 100000 in
theorem many_true (A : Option Addr) (c : Nat) (l : List Int) (w : World) (hC : Kd.C (Kd.int .u32) w A l.length l) (hc : l.length ≤ c) (hU : U32s l) :
    Calls Try.prog 4 #[.bool true, .slice A l.length c] w fun e w' => e = .returned (.bool true) ∧ Below w.heap.size w w' := by
  have HC := Aside0.mk hC
  have HU := Aside0.mk hU
  have hm := Kd.C_max hC
  clear hC hU
  by_cases gl : l.length ≤ 400
  · have b1 : decide ((400 : Int) < (l.length : Int)) = false := decide_eq_false (by omega)
    have HGL := Aside0.mk gl
    clear gl
    go_enter Try.func4, Try.ntmps4
    go_wp2_with fail
    refine (awake_calls w).mono ?_
    rintro e w1 ⟨rfl, h1⟩
    have HB1 := Aside0.mk h1
    clear h1
    go_wp2_with fail
    refine (new_calls w1).mono ?_
    rintro e w2 ⟨rfl, h2, k2⟩
    obtain ⟨g, hg⟩ : ∃ g, g = w1.heap.size := ⟨_, rfl⟩
    rw [← hg] at h2 k2 ⊢
    have HG := Aside0.mk hg
    clear hg
    have HF2 := Aside0.mk h2
    have HK2 := Aside0.mk k2
    clear h2 k2
    have hb12 : Below w.heap.size w w2 := below_step HB1.out (by rw [← HG.out]; exact HK2.out)
    have hgw : w.heap.size ≤ g := by rw [HG.out]; exact HB1.out.size
    have HB := Aside0.mk hb12
    have HGW := Aside0.mk hgw
    clear hb12 hgw
    go_wp2
    go_loopw [7] (fun v7 wr => ∃ k : Nat, v7 = .int .i64 k ∧ k ≤ 320 ∧ Aside0 (Below w.heap.size w wr) ∧ Aside0 (g ≤ wr.heap.size) ∧ Aside0 (Mid g g true k wr)) (fun v7 _ => 320 - (intOf v7).toNat)
    case atStart => exact ⟨0, rfl, by omega, HB, ⟨by rw [HG.out]; exact HK2.out.size⟩, ⟨Fs.new, HF2.out, Inv.zero true⟩⟩
    case round =>
      obtain ⟨k, rfl, hk, HBr, HSr, HMr⟩ := hrel
      clear HB HF2 HK2
      by_cases hlt : k < 320
      · have d1 : decide ((k : Int) < 320) = true := decide_eq_true (by omega)
        by_cases hln : k < l.length
        · have d2 : decide ((k : Int) < (l.length : Int)) = true := decide_eq_true (by omega)
          obtain ⟨ad, he, kx⟩ := Kd.at_int (Kd.C_below HC.out HBr.out) (k : Int) (by omega) (by omega)
          subst he
          have hv : 0 ≤ rd l (k : Int) ∧ rd l (k : Int) ≤ 4294967295 := by
            have : rd l (k : Int) = l[k] := by unfold rd; simp [hln]
            rw [this]; exact HU.out _ (List.getElem_mem _)
          generalize rd l (k : Int) = v at *
          rw [Int.toNat_natCast] at kx
          have HV := Aside0.mk hv
          clear hv
          have hconv := name_conv wr k hlt
          go_wp2_with fail
          obtain ⟨F, hF, hI⟩ := HMr.out
          have hb3 : Below wr.heap.size wr (wr.alloc (.cells #[.int .u8 (97 + (k : Int) % 26), .int .u8 (97 + (k : Int) / 26)] 5)) := (Below.refl _ wr).alloc (Nat.le_refl _) _
          rw [u_wrap HV.out]
          refine (many_step g g true F k v _ (Nat.le_trans HSr.out hb3.size) (FsAt.below hF hb3) hI hlt HV.out.1 HV.out.2).mono ?_
          rintro e w3 ⟨n, x, rfl, hx, F', hF', hI', hB'⟩
          have HB3 := Aside0.mk (below_step HBr.out hb3)
          have HS3 := Aside0.mk (Nat.le_trans (Nat.le_trans HSr.out hb3.size) hB'.size)
          have HB4 := Aside0.mk (HB3.out.trans (hB'.mono HGW.out))
          have HM4 : Aside0 (Mid g g true (k + 1) w3) := ⟨F', hF', hI'⟩
          clear hb3 hF' hI' hB' hF hI hconv
          rcases hx with ⟨g3, rfl, rfl⟩ | ⟨g3, rfl⟩
          · have d4 : decide ((k : Int) < 299) = true := decide_eq_true (by omega)
            have d5 : decide ((299 : Int) ≤ (k : Int)) = false := decide_eq_false (by omega)
            clear g3
            go_wp2
            go_roundw
            case rel => exact ⟨k + 1, by go_num, by omega, HB4, HS3, HM4⟩
            case measure => simp [intOf]; omega
          · have d4 : decide ((k : Int) < 299) = false := decide_eq_false (by omega)
            have d5 : decide ((299 : Int) ≤ (k : Int)) = true := decide_eq_true (by omega)
            clear g3
            go_wp2
            go_roundw
            case rel => exact ⟨k + 1, by go_num, by omega, HB4, HS3, HM4⟩
            case measure => simp [intOf]; omega
        · have d2 : decide ((k : Int) < (l.length : Int)) = false := decide_eq_false (by omega)
          have hconv := name_conv wr k hlt
          go_wp2_with fail
          obtain ⟨F, hF, hI⟩ := HMr.out
          have hb3 : Below wr.heap.size wr (wr.alloc (.cells #[.int .u8 (97 + (k : Int) % 26), .int .u8 (97 + (k : Int) / 26)] 5)) := (Below.refl _ wr).alloc (Nat.le_refl _) _
          refine (many_step g g true F k 0 _ (Nat.le_trans HSr.out hb3.size) (FsAt.below hF hb3) hI hlt (by omega) (by omega)).mono ?_
          rintro e w3 ⟨n, x, rfl, hx, F', hF', hI', hB'⟩
          have HB3 := Aside0.mk (below_step HBr.out hb3)
          have HS3 := Aside0.mk (Nat.le_trans (Nat.le_trans HSr.out hb3.size) hB'.size)
          have HB4 := Aside0.mk (HB3.out.trans (hB'.mono HGW.out))
          have HM4 : Aside0 (Mid g g true (k + 1) w3) := ⟨F', hF', hI'⟩
          clear hb3 hF' hI' hB' hF hI hconv
          rcases hx with ⟨g3, rfl, rfl⟩ | ⟨g3, rfl⟩
          · have d4 : decide ((k : Int) < 299) = true := decide_eq_true (by omega)
            have d5 : decide ((299 : Int) ≤ (k : Int)) = false := decide_eq_false (by omega)
            clear g3
            go_wp2
            go_roundw
            case rel => exact ⟨k + 1, by go_num, by omega, HB4, HS3, HM4⟩
            case measure => simp [intOf]; omega
          · have d4 : decide ((k : Int) < 299) = false := decide_eq_false (by omega)
            have d5 : decide ((299 : Int) ≤ (k : Int)) = true := decide_eq_true (by omega)
            clear g3
            go_wp2
            go_roundw
            case rel => exact ⟨k + 1, by go_num, by omega, HB4, HS3, HM4⟩
            case measure => simp [intOf]; omega
      · have d1 : decide ((k : Int) < 320) = false := decide_eq_false (by omega)
        obtain ⟨F, hF, hI⟩ := HMr.out
        have hI9 : Inv true F 299 := by rw [show min k 299 = 299 by omega] at hI; exact hI
        have HF := Aside0.mk hF
        have HI := Aside0.mk hI9
        clear hF hI hI9
        go_wp2_with fail
        refine (more_calls g g true F wr HSr.out HF.out HI.out).mono ?_
        rintro e w3 ⟨n, x, rfl, rfl, rfl, F', hF', hL', h8', hB'⟩
        have HB4 := Aside0.mk (HBr.out.trans (hB'.mono HGW.out))
        have HR3 := Aside0.mk hF'.read
        have HL3 := Aside0.mk hL'
        have h8n : (F'.nodeN 0).f8 = 301 := by
          unfold Fs.nodeN
          have : F'.has 0 = true := decide_eq_true ⟨by omega, by rw [hL']; omega⟩
          rw [if_pos this, at_zero]; exact h8'
        have hne : F'.nodeE 0 = 0 := by
          unfold Fs.nodeE
          have : F'.has 0 = true := decide_eq_true ⟨by omega, by rw [hL']; omega⟩
          rw [if_pos this]
        have cN := node_calls g F' 0 w3 HR3.out
        rw [hne] at cN
        obtain ⟨nd, hnd⟩ : ∃ nd, nd = F'.nodeN 0 := ⟨_, rfl⟩
        rw [← hnd] at cN h8n
        have H8 := Aside0.mk h8n
        have HC3 := Aside0.mk cN
        clear hF' hL' h8' hB' hne hnd h8n cN
        go_wp2_with fail
        refine HC3.out.mono ?_
        rintro e w4 ⟨rfl, hb4⟩
        have HB5 := Aside0.mk (below_step HB4.out hb4)
        have HR5 := Aside0.mk (HR3.out.below hb4)
        clear hb4
        unfold encN
        obtain ⟨n0, n1, n2, n3, n4, n5, n6, n7, n8, n9, n10⟩ := nd
        obtain rfl := H8.out
        go_wp2_with fail
        generalize hW5 : World.alloc _ _ = W5
        have hb5 : Below w4.heap.size w4 W5 := by rw [← hW5]; exact (Below.refl _ w4).alloc (Nat.le_refl _) _
        have b5 : W5.heap[w4.heap.size]? = some (.cells #[.int .i64 n0, .int .i64 n1, .int .i64 n2, .int .i64 n3, .int .i64 n4, .int .i64 n5, .int .i64 n6, .int .i64 n7, .int .i64 301, .int .i64 n9.f0, .int .i64 n9.f1, .int .i64 n9.f2, .string n10] 36 (0, 0)) := by rw [← hW5]; exact heap_alloc_new w4 _
        have c8 : W5.cell? ⟨w4.heap.size, 8, none⟩ = some (.int .i64 301) := (blk_cell b5 8).trans rfl
        have HB6 := Aside0.mk (below_step HB5.out hb5)
        have hcc := count_calls g F' W5 (HR5.out.below hb5)
        rw [HL3.out] at hcc
        clear hW5 hb5 b5
        refine hcc.mono ?_
        rintro e w6 ⟨rfl, rfl⟩
        clear hcc
        go_wp2
        go_ret
        exact ⟨rfl, HB6.out⟩
  · have b1 : decide ((400 : Int) < (l.length : Int)) = true := decide_eq_true (by omega)
    clear gl
    go_enter Try.func4, Try.ntmps4
    go_wp2_with fail
    refine (awake_calls w).mono ?_
    rintro e w1 ⟨rfl, h1⟩
    have HB1 := Aside0.mk h1
    clear h1
    go_wp2_with fail
    refine (awake_calls w1).mono ?_
    rintro e w2 ⟨rfl, h2⟩
    have HB2 := Aside0.mk h2
    clear h2
    go_wp2_with fail
    go_ret
    exact ⟨rfl, below_step HB1.out HB2.out⟩
set_option maxHeartbeats 4000000 in
set_option maxRecDepth 100000 in
theorem many_false (A : Option Addr) (c : Nat) (l : List Int) (w : World) (hC : Kd.C (Kd.int .u32) w A l.length l) (hc : l.length ≤ c) (hU : U32s l) :
    Calls Try.prog 4 #[.bool false, .slice A l.length c] w fun e w' => e = .returned (.bool true) ∧ Below w.heap.size w w' := by
  have HC := Aside0.mk hC
  have HU := Aside0.mk hU
  have hm := Kd.C_max hC
  clear hC hU
  by_cases gl : l.length ≤ 400
  · have b1 : decide ((400 : Int) < (l.length : Int)) = false := decide_eq_false (by omega)
    have HGL := Aside0.mk gl
    clear gl
    go_enter Try.func4, Try.ntmps4
    go_wp2_with fail
    refine (awake_calls w).mono ?_
    rintro e w1 ⟨rfl, h1⟩
    have HB1 := Aside0.mk h1
    clear h1
    go_wp2_with fail
    refine (new_calls w1).mono ?_
    rintro e w2 ⟨rfl, h2, k2⟩
    obtain ⟨g, hg⟩ : ∃ g, g = w1.heap.size := ⟨_, rfl⟩
    rw [← hg] at h2 k2 ⊢
    have HG := Aside0.mk hg
    clear hg
    have HF2 := Aside0.mk h2
    have HK2 := Aside0.mk k2
    clear h2 k2
    have hb12 : Below w.heap.size w w2 := below_step HB1.out (by rw [← HG.out]; exact HK2.out)
    have hgw : w.heap.size ≤ g := by rw [HG.out]; exact HB1.out.size
    have HB := Aside0.mk hb12
    have HGW := Aside0.mk hgw
    clear hb12 hgw
    go_wp2
    go_loopw [7] (fun v7 wr => ∃ k : Nat, v7 = .int .i64 k ∧ k ≤ 320 ∧ Aside0 (Below w.heap.size w wr) ∧ Aside0 (g ≤ wr.heap.size) ∧ Aside0 (Mid g g false k wr)) (fun v7 _ => 320 - (intOf v7).toNat)
    case atStart => exact ⟨0, rfl, by omega, HB, ⟨by rw [HG.out]; exact HK2.out.size⟩, ⟨Fs.new, HF2.out, Inv.zero false⟩⟩
    case round =>
      obtain ⟨k, rfl, hk, HBr, HSr, HMr⟩ := hrel
      clear HB HF2 HK2
      by_cases hlt : k < 320
      · have d1 : decide ((k : Int) < 320) = true := decide_eq_true (by omega)
        by_cases hln : k < l.length
        · have d2 : decide ((k : Int) < (l.length : Int)) = true := decide_eq_true (by omega)
          obtain ⟨ad, he, kx⟩ := Kd.at_int (Kd.C_below HC.out HBr.out) (k : Int) (by omega) (by omega)
          subst he
          have hv : 0 ≤ rd l (k : Int) ∧ rd l (k : Int) ≤ 4294967295 := by
            have : rd l (k : Int) = l[k] := by unfold rd; simp [hln]
            rw [this]; exact HU.out _ (List.getElem_mem _)
          generalize rd l (k : Int) = v at *
          rw [Int.toNat_natCast] at kx
          have HV := Aside0.mk hv
          clear hv
          have hconv := name_conv wr k hlt
          go_wp2_with fail
          obtain ⟨F, hF, hI⟩ := HMr.out
          have hb3 : Below wr.heap.size wr (wr.alloc (.cells #[.int .u8 (97 + (k : Int) % 26), .int .u8 (97 + (k : Int) / 26)] 5)) := (Below.refl _ wr).alloc (Nat.le_refl _) _
          rw [u_wrap HV.out]
          refine (many_step g g false F k v _ (Nat.le_trans HSr.out hb3.size) (FsAt.below hF hb3) hI hlt HV.out.1 HV.out.2).mono ?_
          rintro e w3 ⟨n, x, rfl, hx, F', hF', hI', hB'⟩
          have HB3 := Aside0.mk (below_step HBr.out hb3)
          have HS3 := Aside0.mk (Nat.le_trans (Nat.le_trans HSr.out hb3.size) hB'.size)
          have HB4 := Aside0.mk (HB3.out.trans (hB'.mono HGW.out))
          have HM4 : Aside0 (Mid g g false (k + 1) w3) := ⟨F', hF', hI'⟩
          clear hb3 hF' hI' hB' hF hI hconv
          rcases hx with ⟨g3, rfl, rfl⟩ | ⟨g3, rfl⟩
          · have d4 : decide ((k : Int) < 299) = true := decide_eq_true (by omega)
            have d5 : decide ((299 : Int) ≤ (k : Int)) = false := decide_eq_false (by omega)
            clear g3
            go_wp2
            go_roundw
            case rel => exact ⟨k + 1, by go_num, by omega, HB4, HS3, HM4⟩
            case measure => simp [intOf]; omega
          · have d4 : decide ((k : Int) < 299) = false := decide_eq_false (by omega)
            have d5 : decide ((299 : Int) ≤ (k : Int)) = true := decide_eq_true (by omega)
            clear g3
            go_wp2
            go_roundw
            case rel => exact ⟨k + 1, by go_num, by omega, HB4, HS3, HM4⟩
            case measure => simp [intOf]; omega
        · have d2 : decide ((k : Int) < (l.length : Int)) = false := decide_eq_false (by omega)
          have hconv := name_conv wr k hlt
          go_wp2_with fail
          obtain ⟨F, hF, hI⟩ := HMr.out
          have hb3 : Below wr.heap.size wr (wr.alloc (.cells #[.int .u8 (97 + (k : Int) % 26), .int .u8 (97 + (k : Int) / 26)] 5)) := (Below.refl _ wr).alloc (Nat.le_refl _) _
          refine (many_step g g false F k 0 _ (Nat.le_trans HSr.out hb3.size) (FsAt.below hF hb3) hI hlt (by omega) (by omega)).mono ?_
          rintro e w3 ⟨n, x, rfl, hx, F', hF', hI', hB'⟩
          have HB3 := Aside0.mk (below_step HBr.out hb3)
          have HS3 := Aside0.mk (Nat.le_trans (Nat.le_trans HSr.out hb3.size) hB'.size)
          have HB4 := Aside0.mk (HB3.out.trans (hB'.mono HGW.out))
          have HM4 : Aside0 (Mid g g false (k + 1) w3) := ⟨F', hF', hI'⟩
          clear hb3 hF' hI' hB' hF hI hconv
          rcases hx with ⟨g3, rfl, rfl⟩ | ⟨g3, rfl⟩
          · have d4 : decide ((k : Int) < 299) = true := decide_eq_true (by omega)
            have d5 : decide ((299 : Int) ≤ (k : Int)) = false := decide_eq_false (by omega)
            clear g3
            go_wp2
            go_roundw
            case rel => exact ⟨k + 1, by go_num, by omega, HB4, HS3, HM4⟩
            case measure => simp [intOf]; omega
          · have d4 : decide ((k : Int) < 299) = false := decide_eq_false (by omega)
            have d5 : decide ((299 : Int) ≤ (k : Int)) = true := decide_eq_true (by omega)
            clear g3
            go_wp2
            go_roundw
            case rel => exact ⟨k + 1, by go_num, by omega, HB4, HS3, HM4⟩
            case measure => simp [intOf]; omega
      · have d1 : decide ((k : Int) < 320) = false := decide_eq_false (by omega)
        obtain ⟨F, hF, hI⟩ := HMr.out
        have hI9 : Inv false F 299 := by rw [show min k 299 = 299 by omega] at hI; exact hI
        have HF := Aside0.mk hF
        have HI := Aside0.mk hI9
        clear hF hI hI9
        go_wp2_with fail
        refine (more_calls g g false F wr HSr.out HF.out HI.out).mono ?_
        rintro e w3 ⟨n, x, rfl, rfl, rfl, F', hF', hL', h8', hB'⟩
        have HB4 := Aside0.mk (HBr.out.trans (hB'.mono HGW.out))
        have HR3 := Aside0.mk hF'.read
        have HL3 := Aside0.mk hL'
        have h8n : (F'.nodeN 0).f8 = 2 := by
          unfold Fs.nodeN
          have : F'.has 0 = true := decide_eq_true ⟨by omega, by rw [hL']; omega⟩
          rw [if_pos this, at_zero]; exact h8'
        have hne : F'.nodeE 0 = 0 := by
          unfold Fs.nodeE
          have : F'.has 0 = true := decide_eq_true ⟨by omega, by rw [hL']; omega⟩
          rw [if_pos this]
        have cN := node_calls g F' 0 w3 HR3.out
        rw [hne] at cN
        obtain ⟨nd, hnd⟩ : ∃ nd, nd = F'.nodeN 0 := ⟨_, rfl⟩
        rw [← hnd] at cN h8n
        have H8 := Aside0.mk h8n
        have HC3 := Aside0.mk cN
        clear hF' hL' h8' hB' hne hnd h8n cN
        go_wp2_with fail
        refine HC3.out.mono ?_
        rintro e w4 ⟨rfl, hb4⟩
        have HB5 := Aside0.mk (below_step HB4.out hb4)
        have HR5 := Aside0.mk (HR3.out.below hb4)
        clear hb4
        unfold encN
        obtain ⟨n0, n1, n2, n3, n4, n5, n6, n7, n8, n9, n10⟩ := nd
        obtain rfl := H8.out
        go_wp2_with fail
        generalize hW5 : World.alloc _ _ = W5
        have hb5 : Below w4.heap.size w4 W5 := by rw [← hW5]; exact (Below.refl _ w4).alloc (Nat.le_refl _) _
        have b5 : W5.heap[w4.heap.size]? = some (.cells #[.int .i64 n0, .int .i64 n1, .int .i64 n2, .int .i64 n3, .int .i64 n4, .int .i64 n5, .int .i64 n6, .int .i64 n7, .int .i64 2, .int .i64 n9.f0, .int .i64 n9.f1, .int .i64 n9.f2, .string n10] 36 (0, 0)) := by rw [← hW5]; exact heap_alloc_new w4 _
        have c8 : W5.cell? ⟨w4.heap.size, 8, none⟩ = some (.int .i64 2) := (blk_cell b5 8).trans rfl
        have HB6 := Aside0.mk (below_step HB5.out hb5)
        have hcc := count_calls g F' W5 (HR5.out.below hb5)
        rw [HL3.out] at hcc
        clear hW5 hb5 b5
        refine hcc.mono ?_
        rintro e w6 ⟨rfl, rfl⟩
        clear hcc
        go_wp2
        go_ret
        exact ⟨rfl, HB6.out⟩
  · have b1 : decide ((400 : Int) < (l.length : Int)) = true := decide_eq_true (by omega)
    clear gl
    go_enter Try.func4, Try.ntmps4
    go_wp2_with fail
    refine (awake_calls w).mono ?_
    rintro e w1 ⟨rfl, h1⟩
    have HB1 := Aside0.mk h1
    clear h1
    go_wp2_with fail
    refine (awake_calls w1).mono ?_
    rintro e w2 ⟨rfl, h2⟩
    have HB2 := Aside0.mk h2
    clear h2
    go_wp2_with fail
    go_ret
    exact ⟨rfl, below_step HB1.out HB2.out⟩
end Go.Proofs.Ytlfldoghomnbkaa.QVfs
