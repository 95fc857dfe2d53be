import Derived.Test.YtcbjkfhflmlniaaDoorKXPa1
-- Texts of this seat, what the claim does not reach struck out by a program.
namespace Go.Proofs.YtcbjkfhflmlniaaDoor.QVfs
open Go.RowKit Go.Proofs.YtcbjkfhflmlniaaDoorW.PrintWords Go.Proofs.YtcbjkfhflmlniaaDoorW.PrintLast Go.Proofs.YtcbjkfhflmlniaaDoorW.PrintMore
set_option linter.unusedVariables false
set_option linter.unusedSimpArgs false
def Wk.goes (S : Wk) : Bool := !S.left.isEmpty || S.slash || S.follow
def Wk.at (F : Fs) (S : Wk) (x : Entry) (name : ByteArray) : Wk := { S with id := F.overE x.f1, dir := S.id, name := name }
def Wk.entry (F : Fs) (S : Wk) (name : ByteArray) : Int × Wk :=
 if F.listE S.id = 0 then
  match (F.listL S.id).find? (namedB name) with
  | none => (2, S)
  | some x => if (F.nodeN x.f1).f2 = 3 ∧ S.goes = true then S.link F x.f1 S.id else (0, S.at F x name)
 else (F.listE S.id, S)
theorem Idx.find {α : Type} {p : α → Bool} {l : List α} {r : Int} (h : Idx p l r) : (∃ k : Nat, ∃ h : k < l.length, r = (k : Int) ∧ l.find? p = some l[k]) ∨ (r = -1 ∧ l.find? p = none) := by
 rcases h with ⟨k, hk, rfl, hp, hn⟩ | ⟨rfl, hn⟩
 ·left
  refine ⟨k, hk, rfl, ?_⟩
  rw [List.find?_eq_some_iff_getElem]
  exact ⟨hp, k, hk, rfl, fun j hj => by rw [hn j hj]; rfl⟩
 ·right
  refine ⟨rfl, List.find?_eq_none.2 fun x hx => by rw [hn x hx]; decide⟩
set_option maxHeartbeats 1000000 in
theorem named_calls (g : Nat) (name : ByteArray) (x : Entry) (W : World) (hc : W.cell? ⟨g, 0, none⟩ = some (.string name)) :
  Calls Tryd.prog 59 (#[.agg #[.string x.f0, .int .i64 x.f1]] ++ #[.pointer (some ⟨g, 0, none⟩)]) W fun e w' => e = .returned (.bool (namedB name x)) ∧ Below W.heap.size W w' := by
 show Calls Tryd.prog 59 #[.agg #[.string x.f0, .int .i64 x.f1], .pointer (some ⟨g, 0, none⟩)] W _
 have hlt : g < W.heap.size := World.block_lt_of_cell? W _ hc
 have hb := below_alloc (Below.refl _ W) (Obj.cells #[.string x.f0, .int .i64 x.f1] TE)
 have hc2 := pw_cell_below hb hc
 unfold namedB
 go_enter Tryd.func59, Tryd.ntmps59
 go_wp2
 go_ret
 exact ⟨rfl, hb⟩
set_option maxHeartbeats 8000000 in
set_option maxRecDepth 100000 in
theorem entry_done {E : Env4} {base : Nat} {ok : Nat → Prop} {F : Fs} {v : Value} {S : Wk} (name : ByteArray) (W : World) (h : WkAt E base ok F v S W) (ht : ∀ id, (F.linkT id).size ≤ 100000) (he : ∀ i, (F.at i).f1.length ≤ 100000) (hl : S.left.length ≤ 10000000) (h0 : 0 ≤ S.hops) (h1 : S.hops ≤ 1000) :
  Calls Tryd.prog 43 #[.pointer (some ⟨E.gw, 0, none⟩), .string name] W (Done E base ok F (S.entry F name).2 (.int .i64 (S.entry F name).1) W) := by
 obtain ⟨W1, hW1⟩ : ∃ W1, W1 = W.alloc (.cells #[.string name] 9) := ⟨_, rfl⟩
 obtain ⟨b0, hb0⟩ : ∃ b0, b0 = W.heap.size := ⟨_, rfl⟩
 have hB1 : Below W.heap.size W W1 := hW1 ▸ below_al _
 have hH1 := h.below hB1
 have hN : W1.cell? ⟨b0, 0, none⟩ = some (.string name) := by rw [hW1, hb0]; exact (blk_cell (heap_alloc_new W _) 0).trans rfl
 have hL := list_calls base E.g ok F S.id W1 hH1.fs he
 have hlt := h.lt
 obtain ⟨A, c, rfl⟩ := Kd.V_slice h.row
 obtain ⟨c0, -, -, -, -, -, c6, -, -, -⟩ := hH1.cells
 have c0a : (W.alloc (.cells #[.string name] 9)).cell? ⟨E.gw, 0, none⟩ = some (.pointer (some ⟨E.g, 0, none⟩)) := hW1 ▸ c0
 have c6a : (W.alloc (.cells #[.string name] 9)).cell? ⟨E.gw, 6, none⟩ = some (.int .i64 S.id) := hW1 ▸ c6
 have eg : ∀ args w, (callFunc 59 args).run Tryd.prog w = .ok (.enter 59 args) w := enters_of Tryd.func59 (by kernel_rfl) rfl
 have HW := Aside0.mk (And.intro hW1 hb0)
 have HH := Aside0.mk hH1
 have HB := Aside0.mk hB1
 have HLT := Aside0.mk hlt
 have HNm := Aside0.mk hN
 have HT := Aside0.mk (And.intro ht (And.intro hl (And.intro h0 h1)))
 have HEG := Aside0.mk eg
 clear hW1 hb0 hB1 hH1 hlt hN ht hl h0 h1 he h eg
 by_cases hE : F.listE S.id = 0
 ·rw [hE] at hL
  obtain ⟨l, hll⟩ : ∃ l, l = F.listL S.id := ⟨_, rfl⟩
  rw [← hll] at hL
  have HLL := Aside0.mk (And.intro hE hll)
  have HL := Aside0.mk hL
  clear hE hll hL
  go_enter Tryd.func43, Tryd.ntmps43
  go_wp2_with fail
  rw [← HW.out.1]
  rw [← HW.out.2]
  clear c0a c6a
  refine HL.out.mono ?_
  rintro e w2 ⟨vl, rfl, hrow, hb2⟩
  obtain ⟨Al, cl, rfl, hlc, hCl⟩ := ents_of_own hrow
  have h2 := HH.out.below hb2
  have hN2 := pw_cell_below hb2 HNm.out
  have hI := indexFunc_ent 59 #[.pointer (some ⟨b0, 0, none⟩)] (namedB name) w2 Al cl l hCl hlc HEG.out (fun x W' hb' => named_calls b0 name x W' (pw_cell_below hb' hN2))
  have HI := Aside0.mk hI
  have H2 := Aside0.mk h2
  have HN2 := Aside0.mk hN2
  have HCl := Aside0.mk hCl
  have HB2 := Aside0.mk (below_step HB.out hb2)
  have HRow := Aside0.mk hrow
  clear hI h2 hN2 hCl hb2 hrow HL c0 c6 HNm HH HB
  go_wp2_with fail
  refine HI.out.mono ?_
  rintro e w3 ⟨r, rfl, hidx, hb3⟩
  have hB3 := below_step HB2.out hb3
  have h3 := H2.out.below hb3
  rcases hidx.find with ⟨k, hk, rfl, hf⟩ | ⟨rfl, hf⟩
  ·obtain ⟨x, hx⟩ : ∃ x, x = l[k] := ⟨_, rfl⟩
   rw [← hx] at hf
   have hr : S.entry F name = (if (F.nodeN x.f1).f2 = 3 ∧ S.goes = true then S.link F x.f1 S.id else (0, S.at F x name)) := by unfold Wk.entry; rw [if_pos HLL.out.1, ← HLL.out.2, hf]
   obtain ⟨ad, had, q0, q1⟩ := at_T90 (Kd.C_below HCl.out hb3) (k : Int) (by omega) (by omega)
   have ex : rd_T90 l (k : Int) = x := by unfold rd_T90; rw [hx]; simp [hk]
   rw [ex, Int.toNat_natCast] at q0 q1
   obtain ⟨gl, capl, hvl, -⟩ := HRow.out.form (by omega)
   obtain rfl : ad = ⟨gl, 0, none⟩ := by rw [had] at hvl; injection hvl with e1 _ _; exact Option.some.inj e1
   subst had
   rw [add_at0, Nat.zero_add] at q1
   have n5 : gl < w3.heap.size := World.block_lt_of_cell? w3 _ q1
   have n0 : gl ≠ w3.heap.size := by omega
   have n1 : (k : Int) < (l.length : Int) := by omega
   have n2 : ¬ (k : Int) < 0 := by omega
   have n3 : (0 : Int) ≤ (k : Int) := by omega
   have HN : Aside0 (∀ w', Below w3.heap.size w3 w' → Calls Tryd.prog 13 #[.pointer (some ⟨E.g, 0, none⟩), .int .i64 x.f1] w' fun e w2 => e = .returned (.tuple #[.agg (encN (F.nodeN x.f1)).toArray, .int .i64 (F.nodeE x.f1)]) ∧ Below w'.heap.size w' w2) := Aside0.mk fun w' hb => node_calls E.g F x.f1 w' (h3.fs.read.below hb)
   obtain ⟨n, hn⟩ : ∃ n, n = F.nodeN x.f1 := ⟨_, rfl⟩
   rw [← hn] at HN hr
   generalize F.nodeE x.f1 = xe at HN
   obtain ⟨c0, -, -, c3, c4, c5, c6, -, -, -⟩ := h3.cells
   have HN3 := Aside0.mk (pw_cell_below hb3 HN2.out)
   have HR := Aside0.mk hr
   have H3 := Aside0.mk h3
   have HB3 := Aside0.mk hB3
   have n6 := H3.out.lt
   have n4 : E.gw ≠ w3.heap.size := by omega
   clear hidx hf hr hx ex h3 hB3 hb3 hn hk hvl HI H2 HN2 HCl HB2 HLL HEG q0
   obtain ⟨g, uid, gid, gw⟩ := E
   obtain ⟨left, slash, follow, id0, dir0, nm, hops⟩ := S
   unfold encN at HN
   simp only at *
   go_upto_region 8 with fail
   go_cut [9] (fun s9 wx => ∃ gb : Nat, s9 = .pointer (some ⟨gb, 0, none⟩) ∧ wx.heap[gb]? = some (.cells (encN n).toArray TNo (0, 0)) ∧ Below w3.heap.size w3 wx)
   case first =>
    go_region_with ((go_at_call 13; refine (HN.out _ (by repeat (first | exact Below.refl _ _ | apply below_alloc | apply pw_below_drewN | apply below_drew1 | apply below_drew))).mono ?_; rintro e w4 ⟨rfl, hb4⟩; obtain ⟨bc2, bf2, bz2⟩ := bcell hb4))
    all_goals (go_wp2_with fail; go_meet; refine ⟨_, rfl, ?_⟩)
    all_goals first | (with_reducible refine node_one ?_ hb4; first | exact below_drew1 (Below.refl _ _) | exact Below.refl _ _) | (with_reducible refine node_two ?_ (Nat.le_refl _) ?_ hb4; (first | exact heap_alloc_new _ _ | exact blk_drew (heap_alloc_new _ _)); first | exact below_drew1 (below_al _) | exact below_al _)
   case rest =>
    obtain ⟨gb, rfl, hblk, hB⟩ := hcut
    have q2 : wc.cell? ⟨gb, 2, none⟩ = some (.int .i64 n.f2) := (blk_cell hblk 2).trans rfl
    have q1' := pw_cell_below hB q1
    have hw := H3.out.below hB
    have hnm := pw_cell_below hB HN3.out
    clear c0 c3 c4 c5 c6 q1 n0 n4 n5 n6
    obtain ⟨c0, -, -, c3, c4, c5, c6, c7, c8, -⟩ := hw.cells
    have HWc := Aside0.mk hw
    have HBc := Aside0.mk (below_step HB3.out hB)
    clear hblk hB hw H3 HB3 HN3 HN
    obtain ⟨bb, hbb⟩ : ∃ bb, bb = (n.f2 == 3 && (!left.isEmpty || slash || follow)) := ⟨_, rfl⟩
    have HBB := Aside0.mk hbb
    clear hbb
    go_upto_region 9 with fail
    go_cut [68] (fun s68 wx => s68 = .bool bb ∧ wx = wc)
    case first =>
     have hs := HBB.out
     by_cases h3 : n.f2 = 3
     ·have b3 : (n.f2 == 3) = true := by rw [h3]; rfl
      clear h3
      rw [b3] at hs
      cases slash <;> cases follow <;> cases left
      all_goals
       simp at hs
       subst hs
       go_wp2_with fail
       go_meet
       exact ⟨rfl, rfl⟩
     ·have b3 : (n.f2 == 3) = false := by rw [beq_eq_false_iff_ne]; exact h3
      clear h3
      rw [b3] at hs
      simp at hs
      subst hs
      go_wp2_with fail
      go_meet
      exact ⟨rfl, rfl⟩
    case rest =>
     obtain ⟨rfl, rfl⟩ := hcut
     cases bb with
     | true =>
      have hb := HBB.out
      have hcond : n.f2 = 3 ∧ Wk.goes ⟨left, slash, follow, id0, dir0, nm, hops⟩ = true := by
       have h5 := hb.symm
       rw [Bool.and_eq_true] at h5
       exact ⟨by simpa using h5.1, h5.2⟩
      have hr := HR.out
      rw [if_pos hcond] at hr
      have HR' := Aside0.mk hr
      have hT := HT.out
      have hK := link_done x.f1 id0 _ HWc.out (hT.1 x.f1) hT.2.1 hT.2.2.1 hT.2.2.2
      have HK := Aside0.mk hK
      clear hb hcond hr hT hK
      go_wp2_with fail
      refine HK.out.mono ?_
      rintro e w5 ⟨rfl, h5, hb5⟩
      have H5 := Aside0.mk (And.intro h5 hb5)
      clear h5 hb5
      go_wp2_with fail
      go_ret
      have hlow : Below gw W _ := below_low HBc.out (by have := HLT.out; omega)
      exact ⟨by rw [HR'.out]; rfl, by rw [HR'.out]; exact H5.out.1, hlow.trans H5.out.2⟩
     | false =>
      have hb := HBB.out
      have hcond : ¬ (n.f2 = 3 ∧ Wk.goes ⟨left, slash, follow, id0, dir0, nm, hops⟩ = true) := by
       rintro ⟨h5, h6⟩
       rw [h5] at hb
       unfold Wk.goes at h6
       simp only at h6
       rw [h6] at hb
       cases hb
      have hr := HR.out
      rw [if_neg hcond] at hr
      have HR' := Aside0.mk hr
      have z6 := HWc.out.marks 6
      have z7 := HWc.out.marks 7
      have z8 := HWc.out.marks 8
      have HO : Aside0 (∀ w', Below wc.heap.size wc w' → Calls Tryd.prog 14 #[.pointer (some ⟨g, 0, none⟩), .int .i64 x.f1] w' fun e w2 => e = .returned (.int .i64 (F.overE x.f1)) ∧ w' = w2) := Aside0.mk fun w' hb => over_calls g F x.f1 w' (HWc.out.fs.read.below hb)
      have hS := ((HWc.out.put 6 (.int .i64 (F.overE x.f1)) (S' := ⟨left, slash, follow, F.overE x.f1, dir0, nm, hops⟩) rfl rfl).put 7 (.int .i64 id0) (S' := ⟨left, slash, follow, F.overE x.f1, id0, nm, hops⟩) rfl rfl).put 8 (.string name) (S' := Wk.at F ⟨left, slash, follow, id0, dir0, nm, hops⟩ x name) rfl rfl
      have hlow : Below gw W wc := below_low HBc.out (by have := HLT.out; omega)
      have hSB : Below gw W (((wc.setCell ⟨gw, 6, none⟩ (.int .i64 (F.overE x.f1))).setCell ⟨gw, 7, none⟩ (.int .i64 id0)).setCell ⟨gw, 8, none⟩ (.string name)) := ((hlow.setCell (p := ⟨gw, 6, none⟩) (Nat.le_refl _) _).setCell (p := ⟨gw, 7, none⟩) (Nat.le_refl _) _).setCell (p := ⟨gw, 8, none⟩) (Nat.le_refl _) _
      have HS := Aside0.mk (And.intro hS hSB)
      clear hb hcond hr hS hSB hlow
      go_wp2_with fail
      go_region_with ((go_at_call 14; refine (HO.out _ (by repeat (first | exact Below.refl _ _ | apply below_alloc | apply pw_below_drewN | apply below_drew1 | apply below_drew))).mono ?_; rintro e w4 ⟨rfl, rfl⟩))
      all_goals
       go_wp2_with fail
       go_ret
       refine ⟨by rw [HR'.out]; rfl, ?_⟩
       rw [HR'.out]
       first
        | exact ⟨⟨_, HS.out.1.below (below_drew1 (Below.refl _ _))⟩, below_drew1 HS.out.2⟩
        | exact ⟨⟨_, HS.out.1⟩, HS.out.2⟩
  ·have hr : S.entry F name = (2, S) := by unfold Wk.entry; rw [if_pos HLL.out.1, ← HLL.out.2, hf]
   have HR := Aside0.mk hr
   have HF := Aside0.mk h3
   have HB3 := Aside0.mk hB3
   clear hidx hf hr h3 hB3 hb3
   obtain ⟨g, uid, gid, gw⟩ := E
   go_wp2_with fail
   go_ret
   exact ⟨by rw [HR.out]; rfl, ⟨_, by rw [HR.out]; exact HF.out⟩, below_low HB3.out (by have := HLT.out; show gw ≤ _; omega)⟩
 ·have hr : S.entry F name = (F.listE S.id, S) := by unfold Wk.entry; rw [if_neg hE]
  have HR := Aside0.mk hr
  have b1 : (F.listE S.id != 0) = true := by rw [bne_iff_ne]; exact hE
  have HL := Aside0.mk hL
  clear hr hE hL
  generalize F.listE S.id = er at *
  obtain ⟨g, uid, gid, gw⟩ := E
  go_enter Tryd.func43, Tryd.ntmps43
  go_wp2_with fail
  rw [← HW.out.1]
  clear c0a c6a
  refine HL.out.mono ?_
  rintro e w2 ⟨vl, rfl, -, hb2⟩
  have HF := Aside0.mk (HH.out.below hb2)
  have HB2 := Aside0.mk (below_step HB.out hb2)
  clear hb2 c0 c6
  go_wp2_with fail
  go_ret
  exact ⟨by rw [HR.out]; rfl, ⟨_, by rw [HR.out]; exact HF.out⟩, below_low HB2.out (by have := HLT.out; show gw ≤ _; omega)⟩
end Go.Proofs.YtcbjkfhflmlniaaDoor.QVfs
