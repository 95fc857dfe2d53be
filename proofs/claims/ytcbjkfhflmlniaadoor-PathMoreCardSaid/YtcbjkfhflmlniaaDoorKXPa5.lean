import Derived.Test.YtcbjkfhflmlniaaDoorKPa3
-- Texts of this seat, what the claim does not reach struck out by a program.
namespace Go.Proofs.YtcbjkfhflmlniaaDoor.QVfs
open Go.RowKit Go.Proofs.YtcbjkfhflmlniaaDoorW.PrintWords Go.Proofs.YtcbjkfhflmlniaaDoorW.PrintLast Go.Proofs.YtcbjkfhflmlniaaDoorW.PrintMore
set_option linter.unusedVariables false
set_option linter.unusedSimpArgs false
abbrev TPl : Nat := 44
abbrev TWho : Nat := 30
theorem infoS2 : ∃ i, Tryd.prog.info? 9 = some i ∧ i.size = 1 := by
 have h := infoS
 obtain ⟨i, hi, he⟩ := Option.map_eq_some_iff.1 h
 exact ⟨i, hi, congrArg (fun x => x.2.1) he⟩
theorem WkAt.head {E : Env4} {base : Nat} {ok : Nat → Prop} {F : Fs} {v : Value} {S : Wk} {W : World} (h : WkAt E base ok F v S W) {name : ByteArray} {r : List ByteArray} (hl : S.left = name :: r) :
  ∃ ad L c, v = .slice (some ad) L c ∧ 0 < L ∧ W.cell? ad = some (.string name) ∧ ∃ A2 L2 c2, (∀ W', (Instr.slice 23 (.slice (some ad) L c) (some (.int .i64 1)) none none).run Tryd.prog W' = .ok (.slice A2 L2 c2) W') ∧ Kd.V Kd.string 9 W 0 (fun k => E.gw < k) (.slice A2 L2 c2) r := by
 obtain ⟨A, c, rfl⟩ := Kd.V_slice h.row
 obtain ⟨-, hc, hf⟩ := Kd.V_at h.row
 have hC := Kd.F_now hf
 obtain ⟨i, hi, hz⟩ := infoS2
 have hlen : S.left.length = r.length + 1 := by rw [hl]; rfl
 obtain ⟨ad, rfl, hcell⟩ := Kd.at_string hC 0 (by omega) (by omega)
 have hcut := cut_from (P := Tryd.prog) 23 9 .i64 Tryd.underlying23 hi 1 hz (some ad) S.left.length c 1 (by omega) (by omega)
 have hF := Kd.F_cut hf (m := 1) (by omega) hc
 refine ⟨ad, S.left.length, c, rfl, by omega, ?_, _, _, _, hcut, ?_⟩
 ·have e : rdOf ByteArray.empty S.left 0 = name := by rw [hl]; rfl
  rw [e] at hcell
  have e0 : ad.add (0 : Int).toNat = ad := by cases ad; rfl
  rwa [e0] at hcell
 ·have e1 : S.left.drop 1 = r := by rw [hl]; rfl
  have e2 : S.left.length - (1 : Int).toNat = r.length := by rw [hlen]; rfl
  rw [e1] at hF
  rw [e2]
  exact Kd.V_mk (by show r.length ≤ c - 1; omega) hF
theorem WkAt.cut {E : Env4} {base : Nat} {ok : Nat → Prop} {F : Fs} {v v2 : Value} {S : Wk} {W : World} (h : WkAt E base ok F v S W) {r : List ByteArray} (hV : Kd.V Kd.string 9 W 0 (fun k => E.gw < k) v2 r) : WkAt E base ok F v2 { S with left := r } (W.setCell ⟨E.gw, 3, none⟩ v2) :=
 ⟨blk_put h.blk 3 _ rfl, Kd.V_far (p := ⟨E.gw, 3, none⟩) hV (fun k hk => by show k ≠ E.gw; omega) _, h.fs.move0 (fun k hk => Below.heap_setCell W ⟨E.gw, 3, none⟩ _ k (by have := h.low k hk; show k ≠ E.gw; omega)), h.low⟩
structure PlAt (b bp gw : Nat) (w : World) : Prop where
 blk : w.heap[bp]? = some (.cells noPlace TPl (0, 0))
 lo : b ≤ bp
 hi : bp < gw
theorem PlAt.cells {b bp gw : Nat} {w : World} (h : PlAt b bp gw w) : w.cell? ⟨bp, 0, none⟩ = some (.int .i64 0) ∧ w.cell? ⟨bp, 1, none⟩ = some (.int .i64 0) ∧ w.cell? ⟨bp, 2, none⟩ = some (.string ⟨#[]⟩) ∧ w.cell? ⟨bp, 3, none⟩ = some (.int .i64 0) :=
 ⟨blk_cell h.blk 0, blk_cell h.blk 1, blk_cell h.blk 2, blk_cell h.blk 3⟩
theorem PlAt.below {b bp gw : Nat} {w w' : World} (h : PlAt b bp gw w) (hb : Below gw w w') : PlAt b bp gw w' := ⟨(hb.block _ h.hi).trans h.blk, h.lo, h.hi⟩
theorem PlAt.put {b bp gw : Nat} {w0 w : World} (h : PlAt b bp gw w) (hb : Below b w0 w) (v0 v1 v2 v3 : Value) : Below b w0 ((((w.setCell ⟨bp, 0, none⟩ v0).setCell ⟨bp, 1, none⟩ v1).setCell ⟨bp, 2, none⟩ v2).setCell ⟨bp, 3, none⟩ v3) :=
 (((hb.setCell (p := ⟨bp, 0, none⟩) h.lo v0).setCell (p := ⟨bp, 1, none⟩) h.lo v1).setCell (p := ⟨bp, 2, none⟩) h.lo v2).setCell (p := ⟨bp, 3, none⟩) h.lo v3
def WaJ (E : Env4) (base : Nat) (ok : Nat → Prop) (F : Fs) (b bq bp : Nat) (path : ByteArray) (follow : Bool) (S0 : Wk) (W : World) (n : Nat) (a : Act) (w : World) : Prop :=
 ∃ v S, WaFr E.g bq bp E.gw path follow a ∧ Aside0 (WkAt E base ok F v S w) ∧ n = S.mu ∧ Aside0 (S.Fit ∧ (∀ e S', Walks F E.uid E.gid S e S' → F.walked E.uid E.gid path follow (F.answer e S'))) ∧ Aside0 (PlAt b bp E.gw w ∧ Below b W w)
set_option maxHeartbeats 16000000 in
set_option maxRecDepth 100000 in
theorem walk_calls {base g : Nat} {ok : Nat → Prop} {F : Fs} (uid gid : Int) (path : ByteArray) (follow : Bool) (W : World) (h : FsAt base g ok F W) (ht : ∀ id, (F.linkT id).size ≤ 100000) (he : ∀ i, (F.at i).f1.length ≤ 100000) :
  Calls Tryd.prog 12 #[.pointer (some ⟨g, 0, none⟩), .agg #[.int .i64 uid, .int .i64 gid], .string path, .bool follow] W fun e w' => ∃ r, e = .returned (.tuple #[.agg r.1, .int .i64 r.2]) ∧ F.walked uid gid path follow r ∧ Below W.heap.size W w' := by
 have hT := h.tight
 obtain ⟨b, hb⟩ : ∃ b, b = W.heap.size := ⟨_, rfl⟩
 obtain ⟨W1, hW1⟩ : ∃ W1 : World, W1 = (W.alloc (.cells #[.int .i64 uid, .int .i64 gid] TWho)).alloc (.cells noPlace TPl) := ⟨_, rfl⟩
 have hB1 : Below b W W1 := by rw [hW1, hb]; exact ((Below.refl _ W).alloc (Nat.le_refl _) _).alloc (by simp) _
 have hs1 : W1.heap.size = b + 2 := by rw [hW1, hb]; simp
 have hP1 : PlAt b (b + 1) (b + 2) W1 := by
  refine ⟨?_, by omega, by omega⟩
  rw [hW1, hb]
  have e1 := heap_alloc_new (W.alloc (.cells #[.int .i64 uid, .int .i64 gid] TWho)) (.cells noPlace TPl)
  simp only [World.size_alloc] at e1
  exact e1
 have hq0 : W1.cell? ⟨b, 0, none⟩ = some (.int .i64 uid) ∧ W1.cell? ⟨b, 1, none⟩ = some (.int .i64 gid) := by
  have e0 : W1.heap[b]? = some (.cells #[.int .i64 uid, .int .i64 gid] TWho (0, 0)) := by
   rw [hW1, hb]
   exact (Below.heap_alloc _ _ _ (by simp)).trans (heap_alloc_new W _)
  exact ⟨blk_cell e0 0, blk_cell e0 1⟩
 obtain ⟨q0, q1⟩ := hq0
 obtain ⟨p0, p1, p2, p3⟩ := hP1.cells
 have z0 := blk_frozen hP1.blk 0
 have z1 := blk_frozen hP1.blk 1
 have z2 := blk_frozen hP1.blk 2
 have z3 := blk_frozen hP1.blk 3
 have HT := Aside0.mk (hT.below (hb ▸ hB1))
 have HP := Aside0.mk hP1
 have HB := Aside0.mk hB1
 have HS := Aside0.mk hs1
 have Hb := Aside0.mk hb
 have Hs := Aside0.mk (And.intro ht he)
 clear h hT hB1 hP1 hs1 ht he
 go_enter Tryd.func12, Tryd.ntmps12
 go_wp2
 rw [← hW1, ← hb]
 clear hW1 hb
 have hbig : ∀ {x y z : World}, Below (b + 2) x y → Below b x y := fun h => h.mono (by omega)
 refine wp_scope_one ((startW F path follow).mu + 1) (WaJ ⟨g, uid, gid, b + 2⟩ base (fun k => ok k ∧ k < W.heap.size) F b b (b + 1) path follow (startW F path follow) W) rfl ?p0 ?first
 case first =>
  intro hgo
  by_cases hz : path.size = 0
  ·have e0 : path = ⟨#[]⟩ := ByteArray.ext (Array.eq_empty_of_size_eq_zero hz)
   subst e0
   clear hgo
   go_wp2_with fail
   (try simp only [Exit.one_ret])
   refine bodyPost_ret (v := .tuple #[.agg noPlace, .int .i64 2]) (by simp [results, Tryd.results12, go_sem, p0, p1, p2, p3]) rfl ⟨(noPlace, 2), rfl, .inl ⟨rfl, rfl⟩, ?_⟩
   rw [← Hb.out]
   exact HP.out.put HB.out _ _ _ _
  ·have b1 : (path.toList == ([] : List UInt8)) = false := by
    have := beq_no (s := path) (t := ⟨#[]⟩) (fun e => hz (by rw [e]; rfl))
    rwa [show (⟨#[]⟩ : ByteArray).toList = [] by decide +kernel] at this
   by_cases hg : 4096 < path.size
   ·clear hgo
    have n1 : (path.size : Int) > 4096 := by omega
    go_wp2_with fail
    (try simp only [Exit.one_ret])
    refine bodyPost_ret (v := .tuple #[.agg noPlace, .int .i64 7]) (by simp [results, Tryd.results12, go_sem, p0, p1, p2, p3]) rfl ⟨(noPlace, 7), rfl, .inr (.inl ⟨hg, rfl⟩), ?_⟩
    rw [← Hb.out]
    exact HP.out.put HB.out _ _ _ _
   ·have n1 : ¬ ((path.size : Int) > 4096) := by omega
    have HG := Aside0.mk hgo
    clear hgo
    go_upto_region 6 with fail
    rw [show W1.heap.size = b + 2 from HS.out]
    obtain ⟨W2, hW2⟩ : ∃ W2 : World, W2 = W1.alloc (.cells (wkCells ⟨g, uid, gid, b + 2⟩ (.slice none 0 0) ⟨[], false, follow, 0, 0, ⟨#[]⟩, 0⟩) TWk) := ⟨_, rfl⟩
    have h2 : WkAt ⟨g, uid, gid, b + 2⟩ base (fun k => ok k ∧ k < W.heap.size) F (.slice none 0 0) ⟨[], false, follow, 0, 0, ⟨#[]⟩, 0⟩ W2 := by
     rw [hW2]
     refine ⟨?_, Kd.V_nil .., HT.out.below (below_al _), fun k hk => by have := Hb.out; show k < b + 2; omega⟩
     have := heap_alloc_new W1 (.cells (wkCells ⟨g, uid, gid, b + 2⟩ (.slice none 0 0) ⟨[], false, follow, 0, 0, ⟨#[]⟩, 0⟩) TWk)
     rwa [HS.out] at this
    have hB2 : Below b W W2 := by rw [hW2]; exact HB.out.alloc (by have := Hb.out; have := HS.out; omega) _
    have hP2 : PlAt b (b + 1) (b + 2) W2 := by rw [hW2]; exact HP.out.below ((Below.refl _ W1).alloc (by have := HS.out; omega) _)
    have hs2 : W2.heap.size = b + 3 := by rw [hW2]; simp; exact HS.out
    have hN := names_calls path (by omega) W2
    have H2 := Aside0.mk h2
    have HB2 := Aside0.mk hB2
    have HP2 := Aside0.mk hP2
    have HS2 := Aside0.mk hs2
    have HN := Aside0.mk hN
    rw [← hW2]
    clear hW2 h2 hB2 hP2 hs2 hN q0 q1 p0 p1 p2 p3 z0 z1 z2 z3 HB HP
    have w0 := H2.out.lt
    obtain ⟨sl, hsl⟩ : ∃ sl, sl = ends path := ⟨_, rfl⟩
    rw [← hsl] at HN
    have HSL := Aside0.mk hsl
    clear hsl
    go_wp2_with fail
    refine HN.out.mono ?_
    rintro e w3 ⟨vn, rfl, hRn, hb3⟩
    have h3 := H2.out.below hb3
    have hV3 : Kd.V Kd.string 9 w3 0 (fun k => b + 2 < k) vn (namesOf path) := Kd.R_V (base' := 0) (Kd.R_mono (Kd.R_bound hRn) (fun k hk => by have := hk.2.1; have := HS2.out; show b + 2 < k; omega))
    obtain ⟨A, c, hvn⟩ := Kd.V_slice hV3
    obtain ⟨L, hL⟩ : ∃ L, L = (namesOf path).length := ⟨_, rfl⟩
    rw [← hL] at hvn
    subst hvn
    clear hL
    obtain ⟨-, -, -, c3, c4, -, -, -, -, -⟩ := h3.cells
    have z3 := h3.marks 3
    have z4 := h3.marks 4
    have h5 : WkAt ⟨g, uid, gid, b + 2⟩ base (fun k => ok k ∧ k < W.heap.size) F (.slice A L c) ⟨namesOf path, sl, follow, 0, 0, ⟨#[]⟩, 0⟩ ((w3.setCell ⟨b + 2, 3, none⟩ (.slice A L c)).setCell ⟨b + 2, 4, none⟩ (.bool sl)) := (h3.cut hV3).put 4 _ rfl rfl
    have hB5 : Below (b + 2) W2 ((w3.setCell ⟨b + 2, 3, none⟩ (.slice A L c)).setCell ⟨b + 2, 4, none⟩ (.bool sl)) := ((hb3.mono (by have := HS2.out; omega) : Below (b + 2) W2 w3).setCell (p := ⟨b + 2, 3, none⟩) (Nat.le_refl _) _).setCell (p := ⟨b + 2, 4, none⟩) (Nat.le_refl _) _
    have H5 := Aside0.mk h5
    have HB5 := Aside0.mk hB5
    clear hRn hb3 h3 hV3 h5 hB5 HN
    go_wp2_with fail
    refine (to_calls 0 _ H5.out).mono ?_
    rintro e w6 ⟨rfl, ⟨v6, h6⟩, hb6⟩
    have H6 := Aside0.mk h6
    have HB6 := Aside0.mk (HB5.out.trans hb6)
    clear h6 hb6 c3 c4 z3 z4 H5 HB5
    go_wp2_with fail
    rename_i hK
    go_step3
    have hN : namesOf path = (startW F path follow).left := rfl
    have hl := namesOf_len path
    have hS : (Wk.to F ⟨namesOf path, sl, follow, 0, 0, ⟨#[]⟩, 0⟩ 0) = startW F path follow := by rw [HSL.out]; rfl
    refine hK _ _ (HG.out (startW F path follow).mu _ _ (by omega) ⟨v6, startW F path follow, WaFr.mk', ⟨hS ▸ H6.out⟩, rfl, ⟨⟨Int.le_refl 0, (by show (0 : Int) ≤ 40; omega), ?_⟩, fun e S' h => .inr (.inr ⟨by omega, by omega, e, S', h, rfl⟩)⟩, ⟨HP2.out.below HB6.out, HB2.out.trans (HB6.out.mono (by omega))⟩⟩)
    show (namesOf path).length ≤ ((0 : Int).toNat + 1) * 100002
    omega
 case p0 =>
  rintro n a wr ⟨v, S, ⟨u, rfl⟩, HW, rfl, HF, HPB⟩
  have ht := Hs.out.1
  have he := Hs.out.2
  clear q0 q1 p0 p1 p2 p3 z0 z1 z2 z3 HB HP HT HS
  obtain ⟨p0, p1, p2, p3⟩ := HPB.out.1.cells
  have z0 := blk_frozen HPB.out.1.blk 0
  have z1 := blk_frozen HPB.out.1.blk 1
  have z2 := blk_frozen HPB.out.1.blk 2
  have z3 := blk_frozen HPB.out.1.blk 3
  have hfin : ∀ e S', Walks F uid gid S e S' → F.walked uid gid path follow (F.answer e S') := HF.out.2
  cases hl : S.left with
  | cons name r =>
   obtain ⟨ad, L, c, rfl, hL, hcell, A2, L2, c2, hcut, hV2⟩ := HW.out.head hl
   obtain ⟨-, -, -, c3, -, -, -, -, -, -⟩ := HW.out.cells
   have y3 := HW.out.marks 3
   have n1 : (L : Int) > 0 := by omega
   have n2 : (0 : Int) < (L : Int) := by omega
   have h1 := HW.out.cut hV2
   have hP1 : PlAt b (b + 1) (b + 2) (wr.setCell ⟨b + 2, 3, none⟩ (.slice A2 L2 c2)) := HPB.out.1.below ((Below.refl _ wr).setCell (p := ⟨b + 2, 3, none⟩) (Nat.le_refl _) _)
   have hB1 : Below b W (wr.setCell ⟨b + 2, 3, none⟩ (.slice A2 L2 c2)) := HPB.out.2.setCell (p := ⟨b + 2, 3, none⟩) (by show b ≤ b + 2; omega) _
   have hf := HF.out.1
   have hS := step_done name _ h1 ht he (by have := hf.l; have := hf.h0; have := hf.h1; have h2 : S.left.length = r.length + 1 := (by rw [hl]; rfl); show r.length ≤ 10000000; omega) hf.h0 (by have := hf.h1; show S.hops ≤ 1000; omega)
   have HS := Aside0.mk hS
   have H1 := Aside0.mk (And.intro hP1 hB1)
   clear h1 hP1 hB1 hf hS hV2
   go_wp2_with fail
   obtain ⟨e1, he1⟩ : ∃ e1, e1 = (Wk.step F uid gid { S with left := r } name).1 := ⟨_, rfl⟩
   obtain ⟨S1, hS1⟩ : ∃ S1, S1 = (Wk.step F uid gid { S with left := r } name).2 := ⟨_, rfl⟩
   have HE := Aside0.mk (show Wk.step F uid gid { S with left := r } name = (e1, S1) by rw [he1, hS1])
   have HS2 : Aside0 (Calls Tryd.prog 28 #[.pointer (some ⟨b + 2, 0, none⟩), .string name] (wr.setCell ⟨b + 2, 3, none⟩ (.slice A2 L2 c2)) (Done ⟨g, uid, gid, b + 2⟩ base (fun k => ok k ∧ k < W.heap.size) F S1 (.int .i64 e1) (wr.setCell ⟨b + 2, 3, none⟩ (.slice A2 L2 c2)))) := Aside0.mk (by rw [he1, hS1]; exact HS.out)
   clear HS he1 hS1 c3 y3 hcut hcell p0 p1 p2 p3 z0 z1 z2 z3
   refine HS2.out.mono ?_
   rintro e w2 ⟨rfl, ⟨v2, h2⟩, hb2⟩
   have HP2 := Aside0.mk (And.intro (H1.out.1.below hb2) (H1.out.2.trans (hb2.mono (by show b ≤ b + 2; omega))))
   have H2 := Aside0.mk h2
   clear h2 hb2 H1 HS2
   by_cases h0 : e1 = 0
   ·subst h0
    have hfit := Wk.step_fit HF.out.1 hl ht (congrArg Prod.fst HE.out)
    rw [HE.out] at hfit
    have hW : ∀ e S', Walks F uid gid S1 e S' → F.walked uid gid path follow (F.answer e S') := fun e S' hw => hfin e S' (.on hl HE.out hw)
    have HX := Aside0.mk (And.intro hfit hW)
    clear hfit hW hfin ht he
    go_wp2_with fail
    go_step3
    exact ⟨rfl, S1.mu, HX.out.1.2, v2, S1, WaFr.mk', H2, rfl, ⟨HX.out.1.1, HX.out.2⟩, HP2⟩
   ·have b1 : (e1 != 0) = true := by rw [bne_iff_ne]; exact h0
    have HX := Aside0.mk (hfin e1 S1 (.stop hl HE.out h0))
    have HA : Aside0 (F.answer e1 S1 = (noPlace, e1)) := Aside0.mk (by unfold Fs.answer; rw [if_neg h0])
    clear hfin h0 ht he
    obtain ⟨p0, p1, p2, p3⟩ := HP2.out.1.cells
    have z0 := blk_frozen HP2.out.1.blk 0
    have z1 := blk_frozen HP2.out.1.blk 1
    have z2 := blk_frozen HP2.out.1.blk 2
    have z3 := blk_frozen HP2.out.1.blk 3
    go_wp2_with fail
    (try simp only [Exit.one_ret])
    refine bodyPost_ret (v := .tuple #[.agg noPlace, .int .i64 e1]) (by simp [results, Tryd.results12, go_sem, p0, p1, p2, p3]) rfl ⟨(noPlace, e1), rfl, (HA.out ▸ HX.out), ?_⟩
    rw [← Hb.out]
    exact HP2.out.1.put HP2.out.2 _ _ _ _
  | nil =>
   obtain ⟨A, c, rfl⟩ := Kd.V_slice HW.out.row
   have hlen : S.left.length = 0 := by rw [hl]; rfl
   rw [hlen] at HW
   have HX := Aside0.mk (hfin 0 S (.done hl))
   clear hfin ht he hlen hl HF
   have HN : Aside0 (∀ w', Below wr.heap.size wr w' → Calls Tryd.prog 13 #[.pointer (some ⟨g, 0, none⟩), .int .i64 S.id] w' fun e w2 => e = .returned (.tuple #[.agg (encN (F.nodeN S.id)).toArray, .int .i64 (F.nodeE S.id)]) ∧ Below w'.heap.size w' w2) := Aside0.mk fun w' hb => node_calls g F S.id w' (HW.out.fs.read.below hb)
   obtain ⟨R, hR⟩ : ∃ R, R = F.answer 0 S := ⟨_, rfl⟩
   rw [← hR] at HX
   have hR2 : R = (if S.slash = true ∧ (F.nodeN S.id).f2 ≠ 2 then (noPlace, 3) else (placeV S, 0)) := by rw [hR]; unfold Fs.answer; rw [if_pos rfl]
   clear hR
   generalize F.nodeN S.id = n at *
   generalize F.nodeE S.id = x at *
   have HR := Aside0.mk hR2
   clear hR2
   obtain ⟨c0, -, -, c3, c4, -, c6, c7, c8, c9⟩ := HW.out.cells
   have hlt : b + 2 < wr.heap.size := HW.out.lt
   unfold encN at HN
   clear p0 p1 p2 p3 z0 z1 z2 z3
   go_upto_region 14 with fail
   go_cut [13] (fun s5 wx => ∃ gb : Nat, s5 = .pointer (some ⟨gb, 0, none⟩) ∧ wx.heap[gb]? = some (.cells (encN n).toArray 50 (0, 0)) ∧ Below wr.heap.size wr wx)
   case first =>
    have n0 : b + 2 ≠ wr.heap.size := by have := hlt; omega
    go_wp2_with fail
    refine (HN.out _ (Below.refl _ _)).mono ?_
    rintro e w2 ⟨rfl, hb2⟩
    obtain ⟨bc2, bf2, bz2⟩ := bcell hb2
    go_wp2_with fail
    go_meet
    refine ⟨_, rfl, ?_⟩
    with_reducible refine node_one ?_ hb2
    exact Below.refl _ wr
   case rest =>
    obtain ⟨gb, rfl, hblk, hB⟩ := hcut
    have q2 : wc.cell? ⟨gb, 2, none⟩ = some (.int .i64 n.f2) := (blk_cell hblk 2).trans rfl
    have hW := HW.out.below hB
    have hP : PlAt b (b + 1) (b + 2) wc ∧ Below b W wc := by
     have hl2 : b + 2 ≤ wr.heap.size := by have := hlt; omega
     have h2 : Below (b + 2) wr wc := below_low hB hl2
     exact ⟨HPB.out.1.below h2, HPB.out.2.trans (h2.mono (by omega))⟩
    have HP := Aside0.mk hP
    clear hB hblk HN HW HPB c0 c3 c4 c6 c7 c8 c9 hlt hP
    obtain ⟨c0, -, -, c3, c4, -, c6, c7, c8, c9⟩ := hW.cells
    clear hW
    obtain ⟨p0, p1, p2, p3⟩ := HP.out.1.cells
    have z0 := blk_frozen HP.out.1.blk 0
    have z1 := blk_frozen HP.out.1.blk 1
    have z2 := blk_frozen HP.out.1.blk 2
    have z3 := blk_frozen HP.out.1.blk 3
    have fin0 : ∀ sl, S.slash = sl → (sl = true → (n.f2 != 2) = false) → (R = (placeV S, 0)) := fun sl h1 h2 => by
     rw [HR.out, if_neg]
     rintro ⟨h3, h4⟩
     have := h2 (h1.symm.trans h3)
     rw [bne_eq_false_iff_eq] at this
     exact h4 this
    by_cases hsl : S.slash = true
    ·rw [hsl] at c4
     by_cases hk : n.f2 = 2
     ·have b1 : (n.f2 != 2) = false := by rw [hk]; rfl
      have HF2 := Aside0.mk (fin0 true hsl (fun _ => b1))
      clear hk hsl fin0
      go_wp2_with fail
      (try simp only [Exit.one_ret])
      refine bodyPost_ret (v := .tuple #[.agg (placeV S), .int .i64 0]) (by simp [results, Tryd.results12, go_sem, p0, p1, p2, p3, placeV]) rfl ⟨R, by rw [HF2.out], HX.out, ?_⟩
      rw [← Hb.out]
      exact HP.out.1.put HP.out.2 _ _ _ _
     ·have b1 : (n.f2 != 2) = true := by rw [bne_iff_ne]; exact hk
      have HF2 : Aside0 (R = (noPlace, 3)) := Aside0.mk (by rw [HR.out, if_pos ⟨hsl, hk⟩])
      clear hk hsl fin0
      go_wp2_with fail
      (try simp only [Exit.one_ret])
      refine bodyPost_ret (v := .tuple #[.agg noPlace, .int .i64 3]) (by simp [results, Tryd.results12, go_sem, p0, p1, p2, p3]) rfl ⟨R, by rw [HF2.out], HX.out, ?_⟩
      rw [← Hb.out]
      exact HP.out.1.put HP.out.2 _ _ _ _
    ·have hsl0 : S.slash = false := by cases h : S.slash; rfl; exact absurd h hsl
     rw [hsl0] at c4
     have HF2 := Aside0.mk (fin0 false hsl0 (fun h => by cases h))
     clear hsl hsl0 fin0
     go_wp2_with fail
     (try simp only [Exit.one_ret])
     refine bodyPost_ret (v := .tuple #[.agg (placeV S), .int .i64 0]) (by simp [results, Tryd.results12, go_sem, p0, p1, p2, p3, placeV]) rfl ⟨R, by rw [HF2.out], HX.out, ?_⟩
     rw [← Hb.out]
     exact HP.out.1.put HP.out.2 _ _ _ _
end Go.Proofs.YtcbjkfhflmlniaaDoor.QVfs
