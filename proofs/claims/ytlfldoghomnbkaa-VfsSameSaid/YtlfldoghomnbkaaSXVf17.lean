import Derived.Test.YtlfldoghomnbkaaSVf13
import Derived.Lib.SliceRun
-- Texts of this seat, what the claim does not reach struck out by a program.
namespace Go.Proofs.Ytlfldoghomnbkaa.QVfs
open Go.RowKit Go.Proofs.YtlfldoghomnbkaaW.PrintWords Go.Proofs.YtlfldoghomnbkaaW.PrintLast Go.Proofs.YtlfldoghomnbkaaW.PrintMore
set_option linter.unusedVariables false
set_option linter.unusedSimpArgs false
set_option maxHeartbeats 2000000 in
set_option maxRecDepth 100000 in
theorem cloneE_calls (ge cap : Nat) (l : List Entry) (w : World) (hl : l.length ≤ 100000) (hc : ∀ (j : Nat) (u : Value), (encE l)[j]? = some u → w.cell? ⟨ge, j, none⟩ = some u) :
  Calls Try.prog 44 #[.slice (some ⟨ge, 0, none⟩) l.length cap] w fun e w' => ∃ v, e = .returned v ∧ w'.ownsRow w.heap.size TE 2 v l.length (encE l) ∧ Below w.heap.size w w' := by
 obtain ⟨i0, hi, hz0, hz1, hz2⟩ := info_parts infoE
 have hlen : (encE l).length = l.length * 2 := by
  unfold encE
  clear hl hc
  induction l with
  | nil => rfl
  | cons x l ih => rw [List.flatMap_cons, List.length_append, ih]; simp; omega
 have h1c : ∀ u ∈ encE l, u.oneCell' = true := by
  intro u hu
  unfold encE at hu
  obtain ⟨x, _, hx⟩ := List.mem_flatMap.1 hu
  simp at hx
  rcases hx with rfl | rfl <;> rfl
 have A := Aside0.mk hc
 have B := Aside0.mk h1c
 have q := fun (w : World) (a : Option Addr) (n c n' c' : Nat) => Lib.run_eql_slice_nil (P := Try.prog) w 57 TE a n c n' c' Try.underlying57
 clear hc h1c
 go_enter Try.func44, Try.ntmps44
 go_wp2_with (at_builtin; refine wpList_append_own _ rfl _ _ 57 rfl w.heap.size TE i0 (.agg #[.string ⟨#[]⟩, .int .i64 0]) 2 24 Try.underlying57 hi hz0 hz1 hz2 rfl (by decide) _ _ _ rfl (World.ownsRow_made w #[] 0 (Nat.le_refl _) (Nat.zero_le _) rfl) ⟨ge, 0, none⟩ l.length cap (encE l) rfl ?qc1 ?qc2 ?qc3 ?qc4 ?qc5 ?qc6 ?_)
 case qc1 => exact hlen
 case qc2 =>
  intro j u hj
  rw [Addr.add_lit]
  refine Lib.cell?_alloc_some _ ?_
  rw [Nat.zero_add]
  exact A.out j u hj
 case qc3 => exact B.out
 case qc4 => unfold maxLen; omega
 case qc5 => omega
 case qc6 => simp
 intro v' w1 hown hgrow hnil
 go_wp2
 go_ret
 refine ⟨v', rfl, by simpa using hown, ?_⟩
 exact ((Below.refl _ w).alloc (Nat.le_refl _) _).grown hgrow (by simp) (by intro k hk; simp [Value.ownBlock] at hk; omega)
theorem cloneE_nil (n c : Nat) (w : World) :
  Calls Try.prog 44 #[.slice none n c] w fun e w' => e = .returned (.slice none 0 0) ∧ w' = w := by
 have q := fun (w : World) (a : Option Addr) (n c n' c' : Nat) => Lib.run_eql_slice_nil (P := Try.prog) w 57 TE a n c n' c' Try.underlying57
 go_enter Try.func44, Try.ntmps44
 go_wp2
 go_ret
 exact ⟨rfl, rfl⟩
def Fs.listE (F : Fs) (id : Int) : Int := if F.dirE id = 0 then (if (F.it id).f4 = true then 8 else 0) else F.dirE id
def Fs.listL (F : Fs) (id : Int) : List Entry := if F.dirE id = 0 then (if (F.it id).f4 = true then [] else (F.it id).f1) else []
set_option maxHeartbeats 4000000 in
set_option maxRecDepth 100000 in
theorem list_calls (base g : Nat) (ok : Nat → Prop) (F : Fs) (id : Int) (w : World) (h : FsAt base g ok F w) (hl : ∀ i, (F.at i).f1.length ≤ 100000) :
  Calls Try.prog 21 #[.pointer (some ⟨g, 0, none⟩), .int .i64 id] w fun e w' => ∃ v, e = .returned (.tuple #[v, .int .i64 (F.listE id)]) ∧ w'.ownsRow w.heap.size TE 2 v (F.listL id).length (encE (F.listL id)) ∧ Below w.heap.size w w' := by
 have cD := dir_calls g F id w h.read
 have own0 : ∀ W : World, W.ownsRow w.heap.size TE 2 (.slice none 0 0) 0 [] := fun W => own_nil _ _ _ _
 unfold Fs.listE Fs.listL
 by_cases gd : F.dirE id = 0
 ·rw [if_pos gd, if_pos gd]
  rw [gd] at cD
  have ha := (Fs.dirE_zero gd).1
  obtain ⟨a, rfl⟩ : ∃ a : Nat, id = a := ⟨id.toNat, by omega⟩
  clear gd
  rw [Fs.it_at]
  obtain ⟨v1, v2, v3, es, hF, hok⟩ := h
  have hal : a < F.I.length := by omega
  obtain ⟨gi, capi, rfl, hcap⟩ := hF.form1 (by omega)
  obtain ⟨x, hx⟩ : ∃ x, F.I[a]? = some x := ⟨_, List.getElem?_eq_getElem hal⟩
  obtain ⟨e, he⟩ : ∃ e, es[a]? = some e := ⟨_, List.getElem?_eq_getElem (by rw [← hF.len]; exact hal)⟩
  have hxa : F.at a = x := by unfold Fs.at; rw [List.getD_eq_getElem?_getD, hx]; rfl
  have hxl := hl a
  rw [hxa] at hxl ⊢
  have k0 : w.cell? ⟨g, 0, none⟩ = some (.slice (some ⟨gi, 0, none⟩) F.I.length capi) := (blk_cell hF.blk 0).trans rfl
  have s13 : w.cell? ⟨gi, a * 17 + 13, none⟩ = some e := (hF.cI hx he 13 (by omega)).1
  have s16 : w.cell? ⟨gi, a * 17 + 16, none⟩ = some (.bool x.f4) := (hF.cI hx he 16 (by omega)).1
  have hrow := hF.rE a x e hx he
  have n1 : (0 : Int) ≤ (a : Int) := by omega
  have n2 : (a : Int) < (F.I.length : Int) := by omega
  clear hF hok hx he hxa hl
  cases hdead : x.f4 with
  | true =>
   rw [if_pos rfl, if_pos rfl]
   rw [hdead] at s16
   have HD := Aside0.mk cD
   have HO := Aside0.mk own0
   clear cD own0 hdead hrow s13
   go_enter Try.func21, Try.ntmps21
   go_wp2_with fail
   refine HD.out.mono ?_
   rintro e w1 ⟨rfl, rfl⟩
   clear HD
   go_wp2
   go_ret2
   exact ⟨_, rfl, HO.out _, Below.refl _ _⟩
  | false =>
   rw [if_neg (by decide), if_neg (by decide)]
   rw [hdead] at s16
   have hr := hrow.2
   have HRow := Aside0.mk hrow
   have HD := Aside0.mk cD
   have HO := Aside0.mk own0
   rcases hr with ⟨rfl, h0⟩ | ⟨gc, cap, cur, rfl, _, _, _, _⟩
   ·have hnil : x.f1 = [] := List.eq_nil_of_length_eq_zero (by omega)
    rw [hnil]
    have HCl := Aside0.mk (cloneE_nil 0 0 w)
    clear cD own0 hdead hrow hnil h0
    go_enter Try.func21, Try.ntmps21
    go_wp2_with fail
    refine HD.out.mono ?_
    rintro e w1 ⟨rfl, rfl⟩
    clear HD
    go_wp2_with fail
    refine HCl.out.mono ?_
    rintro e w2 ⟨rfl, rfl⟩
    go_wp2
    go_ret2
    exact ⟨_, rfl, HO.out _, Below.refl _ _⟩
   ·have HCl := Aside0.mk (cloneE_calls gc cap x.f1 w hxl (fun j u hj => by
     have hjl := (List.getElem?_eq_some_iff.1 hj).1
     exact (own_cell hrow j hjl).1.trans hj))
    clear cD own0 hdead hrow
    obtain ⟨l, hll⟩ : ∃ l, l = x.f1 := ⟨_, rfl⟩
    rw [← hll] at HCl s13
    have HLL := Aside0.mk hll.symm
    clear hll
    go_enter Try.func21, Try.ntmps21
    go_wp2_with fail
    refine HD.out.mono ?_
    rintro e w1 ⟨rfl, rfl⟩
    clear HD
    go_wp2_with fail
    refine HCl.out.mono ?_
    rintro e w2 ⟨v, rfl, h1, h2⟩
    go_wp2
    go_ret2
    rw [HLL.out]
    exact ⟨_, rfl, h1, h2⟩
 ·rw [if_neg gd, if_neg gd]
  have b1 : (F.dirE id != 0) = true := by rw [bne_iff_ne]; exact gd
  have HD := Aside0.mk cD
  have HO := Aside0.mk own0
  clear cD own0 gd h hl
  go_enter Try.func21, Try.ntmps21
  go_wp2_with fail
  refine HD.out.mono ?_
  rintro e w1 ⟨rfl, rfl⟩
  clear HD
  go_wp2
  go_ret2
  exact ⟨_, rfl, HO.out _, Below.refl _ _⟩
end Go.Proofs.Ytlfldoghomnbkaa.QVfs
