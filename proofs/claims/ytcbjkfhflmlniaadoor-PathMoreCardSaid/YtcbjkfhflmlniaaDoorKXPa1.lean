import Derived.Test.YtcbjkfhflmlniaaDoorKXPa0
import Derived.Test.YtcbjkfhflmlniaaDoorKXNames
-- Texts of this seat, what the claim does not reach struck out by a program.
namespace Go.Proofs.YtcbjkfhflmlniaaDoor.QVfs
open Go.RowKit Go.Proofs.YtcbjkfhflmlniaaDoorW.PrintWords Go.Proofs.YtcbjkfhflmlniaaDoorW.PrintLast Go.Proofs.YtcbjkfhflmlniaaDoorW.PrintMore
set_option linter.unusedVariables false
set_option linter.unusedSimpArgs false
def namesOf (s : ByteArray) : List ByteArray := (Ext.pieces s).filter PathMath.full
def begins (s : ByteArray) : Bool := Lib.hasPrefix s.data.toList [47]
def ends (s : ByteArray) : Bool := Lib.hasSuffix s.data.toList [47]
theorem namesOf_len (s : ByteArray) : (namesOf s).length ≤ s.size + 1 := by
 have h1 := Ext.pieces_len s
 have h2 := Ext.count_le s
 have h3 : (namesOf s).length ≤ (Ext.pieces s).length := List.length_filter_le _ _
 omega
theorem names_calls (s : ByteArray) (hs : s.size ≤ 100000) (w : World) :
  Calls Tryd.prog 8 #[.string s] w fun e w' => ∃ v, e = .returned (.tuple #[v, .bool (begins s), .bool (ends s)]) ∧ Kd.string.R 9 w' w.heap.size (fun _ => True) v (namesOf s) ∧ Below w.heap.size w w' :=
 Ext.path_Names.calls s _ _ _ w (by unfold Ext.path_Names.f; rw [if_pos hs]; rfl)
theorem infoS : (Tryd.prog.info? 9).map (fun i => (i.zero, i.size, i.bytes)) = some (some (.string ⟨#[]⟩), 1, 16) := by kernel_rfl
def Wk.hop (S : Wk) : Wk := { S with hops := S.hops + 1 }
def Wk.more (S : Wk) (t : ByteArray) : Wk := { S with slash := S.slash || (ends t && S.left.isEmpty), left := namesOf t ++ S.left }
def Wk.link (F : Fs) (S : Wk) (id dir : Int) : Int × Wk :=
 if 40 < S.hops + 1 then (6, S.hop)
 else if F.linkE id = 0 then (0, if begins (F.linkT id) = true then (((S.hop.more (F.linkT id)).to F dir).to F 0) else ((S.hop.more (F.linkT id)).to F dir))
 else (F.linkE id, S.hop)
set_option maxHeartbeats 8000000 in
set_option maxRecDepth 100000 in
theorem link_done {E : Env4} {base : Nat} {ok : Nat → Prop} {F : Fs} {v : Value} {S : Wk} (id dir : Int) (W : World) (h : WkAt E base ok F v S W) (ht : (F.linkT id).size ≤ 100000) (hl : S.left.length ≤ 10000000) (h0 : 0 ≤ S.hops) (h1 : S.hops ≤ 1000) :
  Calls Tryd.prog 60 #[.pointer (some ⟨E.gw, 0, none⟩), .int .i64 id, .int .i64 dir] W (Done E base ok F (S.link F id dir).2 (.int .i64 (S.link F id dir).1) W) := by
 obtain ⟨c0, -, -, c3, c4, -, -, -, -, c9⟩ := h.cells
 have z3 := h.marks 3
 have z4 := h.marks 4
 have z9 := h.marks 9
 have hlt := h.lt
 have hH : WkAt E base ok F v S.hop (W.setCell ⟨E.gw, 9, none⟩ (.int .i64 (S.hops + 1))) := h.put 9 _ rfl rfl
 have hB0 := h.set_below 9 (.int .i64 (S.hops + 1))
 have e9 : wrap64 (S.hops + 1) = S.hops + 1 := by unfold wrap64; omega
 obtain ⟨A, c, rfl⟩ := Kd.V_slice h.row
 by_cases h40 : 40 < S.hops + 1
 ·have hr : S.link F id dir = (6, S.hop) := by unfold Wk.link; rw [if_pos h40]
  have HR := Aside0.mk hr
  have HH := Aside0.mk hH
  have HB := Aside0.mk hB0
  clear hr hH hB0 h
  obtain ⟨g, uid, gid, gw⟩ := E
  go_enter Tryd.func60, Tryd.ntmps60
  go_wp2_with fail
  go_ret
  exact ⟨by rw [HR.out]; rfl, ⟨_, by rw [HR.out]; exact HH.out⟩, HB.out⟩
 ·obtain ⟨W1, hW1⟩ : ∃ W1, W1 = W.setCell ⟨E.gw, 9, none⟩ (.int .i64 (S.hops + 1)) := ⟨_, rfl⟩
  have hL := link_calls E.g F id W1 (hW1 ▸ hH.fs.read)
  by_cases hE : F.linkE id = 0
  ·obtain ⟨t, hte⟩ : ∃ t, t = F.linkT id := ⟨_, rfl⟩
   obtain ⟨bg, hbg⟩ : ∃ bg, bg = begins t := ⟨_, rfl⟩
   obtain ⟨en, hen⟩ : ∃ en, en = ends t := ⟨_, rfl⟩
   have hr : S.link F id dir = (0, if bg = true then (((S.hop.more t).to F dir).to F 0) else ((S.hop.more t).to F dir)) := by unfold Wk.link; rw [if_neg h40, if_pos hE, hbg, hte]
   have hmo : S.hop.more t = { S.hop with slash := S.slash || (en && S.left.isEmpty), left := namesOf t ++ S.left } := by unfold Wk.more; rw [hen]; rfl
   have hnl := namesOf_len t
   have hN := names_calls t (hte ▸ ht) W1
   rw [← hte] at hL
   rw [← hbg, ← hen] at hN
   rw [hE] at hL
   have hlt1 : E.gw < W1.heap.size := by rw [hW1]; simpa using hlt
   have HR := Aside0.mk hr
   have HH := Aside0.mk (hW1 ▸ hH : WkAt E base ok F _ S.hop W1)
   have HB := Aside0.mk (hW1 ▸ hB0 : Below E.gw W W1)
   have HL := Aside0.mk hL
   have HW := Aside0.mk hW1
   have HN := Aside0.mk hN
   have HM := Aside0.mk hmo
   have HT := Aside0.mk (And.intro (hte ▸ ht : t.size ≤ 100000) (And.intro hl hnl))
   have HLT := Aside0.mk hlt1
   clear hr hH hB0 h hE hL hW1 hN hmo hte hbg hen ht hl hnl hlt1
   generalize hsl : (S.slash || (en && S.left.isEmpty)) = sl at HM
   have HSL := Aside0.mk hsl
   clear hsl
   obtain ⟨g, uid, gid, gw⟩ := E
   obtain ⟨left, slash, follow, id0, dir0, nm, hops⟩ := S
   simp only at *
   go_enter Tryd.func60, Tryd.ntmps60
   go_wp2_with fail
   rw [← HW.out]
   refine HL.out.mono ?_
   rintro e w2 ⟨rfl, rfl⟩
   clear HL
   go_wp2_with fail
   refine HN.out.mono ?_
   rintro e w3 ⟨vn, rfl, hRn, hb3⟩
   have h3 := HH.out.below hb3
   clear c0 c3 c4 c9 z3 z4 z9
   obtain ⟨c0, -, -, c3, c4, -, -, -, -, -⟩ := h3.cells
   have z3 := h3.marks 3
   have z4 := h3.marks 4
   have H3 := Aside0.mk h3
   have HB3 := Aside0.mk hb3
   have HRn := Aside0.mk hRn
   clear h3 hb3 hRn HN
   go_upto_region 8 with fail
   go_cut [] (fun wx => wx = w3.setCell ⟨gw, 4, none⟩ (.bool sl))
   case first =>
    have hs := HSL.out
    cases slash <;> cases en <;> cases left
    all_goals
     simp at hs
     subst hs
     go_wp2_with fail
     go_meet
     rfl
   case rest =>
    subst hcut
    have h4 : WkAt ⟨g, uid, gid, gw⟩ base ok F (.slice A left.length c) ⟨left, sl, follow, id0, dir0, nm, hops + 1⟩ (w3.setCell ⟨gw, 4, none⟩ (.bool sl)) := H3.out.put 4 _ rfl rfl
    have hW4 : Below gw W (w3.setCell ⟨gw, 4, none⟩ (.bool sl)) := (HB.out.trans (below_low HB3.out (by have := HLT.out; omega))).setCell (p := ⟨gw, 4, none⟩) (Nat.le_refl _) _
    have hR4 : Kd.string.R 9 (w3.setCell ⟨gw, 4, none⟩ (.bool sl)) W1.heap.size (fun k => W1.heap.size ≤ k) vn (namesOf t) :=
     Kd.R_far (p := ⟨gw, 4, none⟩) (Kd.R_mono (Kd.R_bound HRn.out) (fun k hk => hk.2.1)) (fun k hk => by have := HLT.out; show k ≠ gw; omega) _
    obtain ⟨w4, hw4⟩ : ∃ w4, w4 = w3.setCell ⟨gw, 4, none⟩ (.bool sl) := ⟨_, rfl⟩
    rw [← hw4] at h4 hW4 hR4 ⊢
    have hs4 : W1.heap.size ≤ w4.heap.size := by rw [hw4]; simpa using HB3.out.size
    clear c0 c3 c4 z3 z4 hw4
    obtain ⟨c0, -, -, c3, -, -, -, -, -, -⟩ := h4.cells
    have z3 := h4.marks 3
    have hC4 := (Kd.V_reads' h4.row).2.2
    have H4 := Aside0.mk h4
    have HB4 := Aside0.mk hW4
    have HR4 := Aside0.mk hR4
    have HS4 := Aside0.mk hs4
    have HC4 := Aside0.mk hC4
    clear h4 hW4 hR4 hs4 hC4 H3 HB3 HRn HH HB HSL HW
    go_wp2_with (at_builtin; refine Kd.R_append_rows Kd.string (Rr := fun x cs => Kd.string.K w4 x cs) (w0 := w4) W1.heap.size rfl (.tmp 64) (.tmp 68) 23 9 (.string ⟨#[]⟩) 16 rfl Tryd.underlying23 infoS rfl (by decide) (by decide) vn (namesOf t) left A left.length c (fun k => W1.heap.size ≤ k) (fun _ => False) rfl rfl HR4.out HC4.out (fun _ _ h => h) (fun _ h => h.elim) (fun k hk => Nat.le_trans HS4.out hk) (Below.refl _ _) HS4.out (by have := HT.out; omega) ?_; intro v5 w5 hR5 hB5 hg5 hn5; obtain ⟨A5, n5, hv5⟩ := Kd.R_slice hR5; obtain ⟨L5, hL5⟩ : ∃ L, L = (namesOf t ++ left).length := ⟨_, rfl⟩; rw [← hL5] at hv5; subst hv5; clear hL5; have c35 : w5.cell? ⟨gw, 3, none⟩ = some (.slice A left.length c) := (hB5.cell (p := ⟨gw, 3, none⟩) HLT.out).trans c3; have z35 : w5.frozen? ⟨gw, 3, none⟩ = false := (hB5.frozen (p := ⟨gw, 3, none⟩) HLT.out).trans z3; have HR5 := Aside0.mk hR5; have HB5 := Aside0.mk hB5; clear hR5 hB5 hg5 hn5)
    have h6 : WkAt ⟨g, uid, gid, gw⟩ base ok F (.slice A5 L5 n5) ⟨namesOf t ++ left, sl, follow, id0, dir0, nm, hops + 1⟩ (w5.setCell ⟨gw, 3, none⟩ (.slice A5 L5 n5)) := by
     have hg := HLT.out
     have hb := HB5.out
     refine ⟨blk_put ((hb.block gw hg).trans H4.out.blk) 3 _ rfl, ?_, H4.out.fs.move0 (fun k hk => ?_), H4.out.low⟩
     ·exact Kd.V_far (p := ⟨gw, 3, none⟩) (Kd.R_V (base' := 0) (Kd.R_mono HR5.out (fun k (hk : W1.heap.size ≤ k) => by show gw < k; omega))) (fun k (hk : gw < k) => by show k ≠ gw; omega) _
     ·have hk' : k < gw := H4.out.low k hk
      exact (Below.heap_setCell w5 ⟨gw, 3, none⟩ _ k (by show k ≠ gw; omega)).trans (hb.block k (by omega))
    have hW6 : Below gw W (w5.setCell ⟨gw, 3, none⟩ (.slice A5 L5 n5)) := (HB4.out.trans (HB5.out.mono (by have := HLT.out; omega))).setCell (p := ⟨gw, 3, none⟩) (Nat.le_refl _) _
    have HW6 := Aside0.mk hW6
    clear hW6 c35 z35
    refine (to_calls dir _ h6).mono ?_
    rintro e w7 ⟨rfl, ⟨v7, h7⟩, hb7⟩
    have HW7 := Aside0.mk (HW6.out.trans hb7)
    clear hb7 h6
    have HM' := HM.out
    cases bg with
    | false =>
     have HF := Aside0.mk h7
     clear h7
     go_wp2_with fail
     go_ret
     refine ⟨by rw [HR.out]; rfl, ⟨v7, ?_⟩, HW7.out⟩
     rw [HR.out, HM.out, if_neg (by decide)]
     exact HF.out
    | true =>
     go_wp2_with fail
     refine (to_calls 0 _ h7).mono ?_
     rintro e w8 ⟨rfl, ⟨v8, h8⟩, hb8⟩
     have HF := Aside0.mk h8
     have HB8 := Aside0.mk hb8
     clear h7 h8 hb8
     go_wp2_with fail
     go_ret
     refine ⟨by rw [HR.out]; rfl, ⟨v8, ?_⟩, HW7.out.trans HB8.out⟩
     rw [HR.out, HM.out]
     simp only [if_true]
     exact HF.out
  ·have hr : S.link F id dir = (F.linkE id, S.hop) := by unfold Wk.link; rw [if_neg h40, if_neg hE]
   have HR := Aside0.mk hr
   have HH := Aside0.mk hH
   have HB := Aside0.mk hB0
   have b1 : (F.linkE id != 0) = true := by rw [bne_iff_ne]; exact hE
   have HL := Aside0.mk hL
   have HW := Aside0.mk hW1
   clear hr hH hB0 h hE hL hW1
   obtain ⟨g, uid, gid, gw⟩ := E
   go_enter Tryd.func60, Tryd.ntmps60
   go_wp2_with fail
   rw [← HW.out]
   refine HL.out.mono ?_
   rintro e w2 ⟨rfl, rfl⟩
   go_wp2_with fail
   go_ret
   exact ⟨by rw [HR.out]; rfl, ⟨_, by rw [HR.out, HW.out]; exact HH.out⟩, by rw [HW.out]; exact HB.out⟩
end Go.Proofs.YtcbjkfhflmlniaaDoor.QVfs
