import Derived.Test.YtlfldoghomnbkaaSXVf10
-- Texts of this seat, what the claim does not reach struck out by a program.
namespace Go.Proofs.Ytlfldoghomnbkaa.QVfs
open Go.RowKit Go.Proofs.YtlfldoghomnbkaaW.PrintWords Go.Proofs.YtlfldoghomnbkaaW.PrintLast Go.Proofs.YtlfldoghomnbkaaW.PrintMore
set_option linter.unusedVariables false
set_option linter.unusedSimpArgs false
def Fs.setI (F : Fs) (a : Nat) (x : Item) : Fs := ⟨F.I.set a x, F.D, F.C⟩
def setMode (n : Node) (m : Int) : Node := ⟨n.f0, n.f1, n.f2, Go.bits .and .i64 m 4095, n.f4, n.f5, n.f6, n.f7, n.f8, n.f9, n.f10⟩
def setUid (n : Node) (u : Int) : Node := ⟨n.f0, n.f1, n.f2, n.f3, max u 0, n.f5, n.f6, n.f7, n.f8, n.f9, n.f10⟩
def setGid (n : Node) (v : Int) : Node := ⟨n.f0, n.f1, n.f2, n.f3, n.f4, max v 0, n.f6, n.f7, n.f8, n.f9, n.f10⟩
def setT (n : Node) (k t : Int) : Node := ⟨n.f0, n.f1, n.f2, n.f3, n.f4, n.f5, n.f6, n.f7, n.f8, ⟨if k = 0 then t else n.f9.f0, if k = 1 then t else n.f9.f1, if k = 2 then t else n.f9.f2⟩, n.f10⟩
def Item.node (x : Item) (n : Node) : Item := ⟨n, x.f1, x.f2, x.f3, x.f4⟩
def Item.over (x : Item) (o : Int) : Item := ⟨x.f0, x.f1, x.f2, o, x.f4⟩
def Item.dies (x : Item) : Item := ⟨x.f0, x.f1, x.f2, x.f3, true⟩
set_option maxHeartbeats 4000000 in
set_option maxRecDepth 100000 in
theorem do_mode (base g : Nat) (ok : Nat → Prop) (F : Fs) (c : Chg) (w : World) (h : FsAt base g ok F w) (hk : c.f0 = 4) (ha : 0 ≤ c.f2 ∧ c.f2 < F.I.length) (hl : F.I.length ≤ 1000) :
  Calls Try.prog 12 #[.pointer (some ⟨g, 0, none⟩), .agg (encC c).toArray] w fun e w' => e = .returned (.tuple #[.int .i64 0, .int .i64 0]) ∧ FsAt base g ok (F.setI c.f2.toNat (Item.node (F.at c.f2.toNat) (setMode (F.at c.f2.toNat).f0 c.f5))) w' ∧ Held w w' ok := by
 obtain ⟨v1, v2, v3, es, hF, hok⟩ := h
 obtain ⟨x0, x1, x2, x3, x4, x5, x6, x7⟩ := c
 simp only at ha hk ⊢
 subst hk
 obtain ⟨a, rfl⟩ : ∃ a : Nat, x2 = a := ⟨x2.toNat, by omega⟩
 rw [Int.toNat_natCast]
 have hal : a < F.I.length := by omega
 obtain ⟨gi, capi, rfl, hcap⟩ := hF.form1 (by omega)
 obtain ⟨x, hx⟩ : ∃ x, F.I[a]? = some x := ⟨_, List.getElem?_eq_getElem hal⟩
 obtain ⟨e, he⟩ : ∃ e, es[a]? = some e := ⟨_, List.getElem?_eq_getElem (by rw [← hF.len]; exact hal)⟩
 have hxa : F.at a = x := by unfold Fs.at; rw [List.getD_eq_getElem?_getD, hx]; rfl
 rw [hxa]
 obtain ⟨W, hW⟩ : ∃ W : World, W = w.alloc (.cells #[.int .i64 4, .int .i64 x1, .int .i64 (a : Int), .string x3, .string x4, .int .i64 x5, .int .i64 x6, .int .i64 x7] TC) := ⟨_, rfl⟩
 have hB : Below w.heap.size w W := by rw [hW]; exact (Below.refl _ w).alloc (Nat.le_refl _) _
 have b0 : W.heap[w.heap.size]? = some (.cells #[.int .i64 4, .int .i64 x1, .int .i64 (a : Int), .string x3, .string x4, .int .i64 x5, .int .i64 x6, .int .i64 x7] TC (0, 0)) := by rw [hW]; exact heap_alloc_new w _
 have hF1 := hF.below hB
 have k0 : W.cell? ⟨g, 0, none⟩ = some (.slice (some ⟨gi, 0, none⟩) F.I.length capi) := (blk_cell hF1.blk 0).trans rfl
 obtain ⟨q0, q1, q2, q3, q4, q5, q6, q7⟩ := box_cells b0
 have n1 : (0 : Int) ≤ (a : Int) := by omega
 have n2 : (a : Int) < (F.I.length : Int) := by omega
 have cI := is_calls g F a W hF1.read
 rw [Fs.has_yes n1 n2] at cI
 have HF1 := Aside0.mk hF1
 have HH := Aside0.mk (And.intro hx he)
 have HOK := Aside0.mk hok
 have HB := Aside0.mk hB
 have HC := Aside0.mk cI
 have HB0 := Aside0.mk b0
 have HLT : Aside0 (w.heap.size < W.heap.size) := ⟨by rw [hW]; simp⟩
 unfold encC
 clear hB b0 hF1 hx he hxa hok hF cI hal
 go_enter Try.func12, Try.ntmps12
 go_wp2_with fail
 rw [← hW]
 clear hW
 go_wp2_with fail
 refine HC.out.mono ?_
 rintro e w1 ⟨rfl, rfl⟩
 clear HC
 go_wp2
 go_quiet (fail)
 rename_i nq
 obtain ⟨W3, hW3⟩ : ∃ W3 : World, W3 = W.drewN nq := ⟨_, rfl⟩
 rw [← hW3]
 have hb3 : Below W.heap.size W W3 := by rw [hW3]; exact pw_below_drewN (Below.refl _ _) _
 have hF3 := HF1.out.below hb3
 have HBx := Aside0.mk (below_step HB.out hb3)
 have b3 := (hb3.block _ HLT.out).trans HB0.out
 clear hW3 hb3 q0 q1 q2 q3 q4 q5 q6 q7 k0
 obtain ⟨q0, q1, q2, q3, q4, q5, q6, q7⟩ := box_cells b3
 have hx := HH.out.1
 have he := HH.out.2
 obtain ⟨s3, f3⟩ := hF3.cI hx he 3 (by omega)
 replace s3 : W3.cell? ⟨gi, a * 17 + 3, none⟩ = some (.int .i64 x.f0.f3) := s3
 have hS := hF3.setI' hx he (j := 3) (x' := Item.node x (setMode x.f0 x5)) (u := .int .i64 (Go.bits .and .i64 x5 4095)) (by omega) rfl rfl
 have HS := Aside0.mk hS
 clear hS
 generalize x.f0.f3 = y3 at *
 clear b3 hF3 hx he
 go_wp2
 go_ret2
 refine ⟨rfl, ⟨_, _, _, _, HS.out, HOK.out⟩, ?_⟩
 exact ((Held.of_below HBx.out _).setCell (p := ⟨gi, a * 17 + 3, none⟩) (.inl (HOK.out gi (.inr (.inl rfl)))) _)
set_option maxHeartbeats 4000000 in
set_option maxRecDepth 100000 in
theorem do_dead (base g : Nat) (ok : Nat → Prop) (F : Fs) (c : Chg) (w : World) (h : FsAt base g ok F w) (hk : c.f0 = 8) (ha : 0 ≤ c.f2 ∧ c.f2 < F.I.length) (hl : F.I.length ≤ 1000) :
  Calls Try.prog 12 #[.pointer (some ⟨g, 0, none⟩), .agg (encC c).toArray] w fun e w' => e = .returned (.tuple #[.int .i64 0, .int .i64 0]) ∧ FsAt base g ok (F.setI c.f2.toNat (Item.dies (F.at c.f2.toNat))) w' ∧ Held w w' ok := by
 obtain ⟨v1, v2, v3, es, hF, hok⟩ := h
 obtain ⟨x0, x1, x2, x3, x4, x5, x6, x7⟩ := c
 simp only at ha hk ⊢
 subst hk
 obtain ⟨a, rfl⟩ : ∃ a : Nat, x2 = a := ⟨x2.toNat, by omega⟩
 rw [Int.toNat_natCast]
 have hal : a < F.I.length := by omega
 obtain ⟨gi, capi, rfl, hcap⟩ := hF.form1 (by omega)
 obtain ⟨x, hx⟩ : ∃ x, F.I[a]? = some x := ⟨_, List.getElem?_eq_getElem hal⟩
 obtain ⟨e, he⟩ : ∃ e, es[a]? = some e := ⟨_, List.getElem?_eq_getElem (by rw [← hF.len]; exact hal)⟩
 have hxa : F.at a = x := by unfold Fs.at; rw [List.getD_eq_getElem?_getD, hx]; rfl
 rw [hxa]
 obtain ⟨W, hW⟩ : ∃ W : World, W = w.alloc (.cells #[.int .i64 8, .int .i64 x1, .int .i64 (a : Int), .string x3, .string x4, .int .i64 x5, .int .i64 x6, .int .i64 x7] TC) := ⟨_, rfl⟩
 have hB : Below w.heap.size w W := by rw [hW]; exact (Below.refl _ w).alloc (Nat.le_refl _) _
 have b0 : W.heap[w.heap.size]? = some (.cells #[.int .i64 8, .int .i64 x1, .int .i64 (a : Int), .string x3, .string x4, .int .i64 x5, .int .i64 x6, .int .i64 x7] TC (0, 0)) := by rw [hW]; exact heap_alloc_new w _
 have hF1 := hF.below hB
 have k0 : W.cell? ⟨g, 0, none⟩ = some (.slice (some ⟨gi, 0, none⟩) F.I.length capi) := (blk_cell hF1.blk 0).trans rfl
 obtain ⟨q0, q1, q2, q3, q4, q5, q6, q7⟩ := box_cells b0
 have n1 : (0 : Int) ≤ (a : Int) := by omega
 have n2 : (a : Int) < (F.I.length : Int) := by omega
 have cI := is_calls g F a W hF1.read
 rw [Fs.has_yes n1 n2] at cI
 have HF1 := Aside0.mk hF1
 have HH := Aside0.mk (And.intro hx he)
 have HOK := Aside0.mk hok
 have HB := Aside0.mk hB
 have HC := Aside0.mk cI
 have HB0 := Aside0.mk b0
 have HLT : Aside0 (w.heap.size < W.heap.size) := ⟨by rw [hW]; simp⟩
 unfold encC
 clear hB b0 hF1 hx he hxa hok hF cI hal
 go_enter Try.func12, Try.ntmps12
 go_wp2_with fail
 rw [← hW]
 clear hW
 go_wp2_with fail
 refine HC.out.mono ?_
 rintro e w1 ⟨rfl, rfl⟩
 clear HC
 go_wp2
 go_quiet (fail)
 rename_i nq
 obtain ⟨W3, hW3⟩ : ∃ W3 : World, W3 = W.drewN nq := ⟨_, rfl⟩
 rw [← hW3]
 have hb3 : Below W.heap.size W W3 := by rw [hW3]; exact pw_below_drewN (Below.refl _ _) _
 have hF3 := HF1.out.below hb3
 have HBx := Aside0.mk (below_step HB.out hb3)
 have b3 := (hb3.block _ HLT.out).trans HB0.out
 clear hW3 hb3 q0 q1 q2 q3 q4 q5 q6 q7 k0
 obtain ⟨q0, q1, q2, q3, q4, q5, q6, q7⟩ := box_cells b3
 have hx := HH.out.1
 have he := HH.out.2
 obtain ⟨s3, f3⟩ := hF3.cI hx he 16 (by omega)
 replace s3 : W3.cell? ⟨gi, a * 17 + 16, none⟩ = some (.bool x.f4) := s3
 have hS := hF3.setI' hx he (j := 16) (x' := Item.dies x) (u := .bool true) (by omega) rfl rfl
 have HS := Aside0.mk hS
 clear hS
 generalize x.f4 = y3 at *
 clear b3 hF3 hx he
 go_wp2
 go_ret2
 refine ⟨rfl, ⟨_, _, _, _, HS.out, HOK.out⟩, ?_⟩
 exact ((Held.of_below HBx.out _).setCell (p := ⟨gi, a * 17 + 16, none⟩) (.inl (HOK.out gi (.inr (.inl rfl)))) _)
set_option maxHeartbeats 4000000 in
set_option maxRecDepth 100000 in
theorem do_owner (base g : Nat) (ok : Nat → Prop) (F : Fs) (c : Chg) (w : World) (h : FsAt base g ok F w) (hk : c.f0 = 5) (ha : 0 ≤ c.f2 ∧ c.f2 < F.I.length) (hl : F.I.length ≤ 1000) :
  Calls Try.prog 12 #[.pointer (some ⟨g, 0, none⟩), .agg (encC c).toArray] w fun e w' => e = .returned (.tuple #[.int .i64 0, .int .i64 0]) ∧ FsAt base g ok (F.setI c.f2.toNat (Item.node (F.at c.f2.toNat) (setGid (setUid (F.at c.f2.toNat).f0 c.f5) c.f6))) w' ∧ Held w w' ok := by
 obtain ⟨v1, v2, v3, es, hF, hok⟩ := h
 obtain ⟨x0, x1, x2, x3, x4, x5, x6, x7⟩ := c
 simp only at ha hk ⊢
 subst hk
 obtain ⟨a, rfl⟩ : ∃ a : Nat, x2 = a := ⟨x2.toNat, by omega⟩
 rw [Int.toNat_natCast]
 have hal : a < F.I.length := by omega
 obtain ⟨gi, capi, rfl, hcap⟩ := hF.form1 (by omega)
 obtain ⟨x, hx⟩ : ∃ x, F.I[a]? = some x := ⟨_, List.getElem?_eq_getElem hal⟩
 obtain ⟨e, he⟩ : ∃ e, es[a]? = some e := ⟨_, List.getElem?_eq_getElem (by rw [← hF.len]; exact hal)⟩
 have hxa : F.at a = x := by unfold Fs.at; rw [List.getD_eq_getElem?_getD, hx]; rfl
 rw [hxa]
 obtain ⟨W, hW⟩ : ∃ W : World, W = w.alloc (.cells #[.int .i64 5, .int .i64 x1, .int .i64 (a : Int), .string x3, .string x4, .int .i64 x5, .int .i64 x6, .int .i64 x7] TC) := ⟨_, rfl⟩
 have hB : Below w.heap.size w W := by rw [hW]; exact (Below.refl _ w).alloc (Nat.le_refl _) _
 have b0 : W.heap[w.heap.size]? = some (.cells #[.int .i64 5, .int .i64 x1, .int .i64 (a : Int), .string x3, .string x4, .int .i64 x5, .int .i64 x6, .int .i64 x7] TC (0, 0)) := by rw [hW]; exact heap_alloc_new w _
 have hF1 := hF.below hB
 have k0 : W.cell? ⟨g, 0, none⟩ = some (.slice (some ⟨gi, 0, none⟩) F.I.length capi) := (blk_cell hF1.blk 0).trans rfl
 obtain ⟨q0, q1, q2, q3, q4, q5, q6, q7⟩ := box_cells b0
 have n1 : (0 : Int) ≤ (a : Int) := by omega
 have n2 : (a : Int) < (F.I.length : Int) := by omega
 have cI := is_calls g F a W hF1.read
 rw [Fs.has_yes n1 n2] at cI
 have HF1 := Aside0.mk hF1
 have HH := Aside0.mk (And.intro hx he)
 have HOK := Aside0.mk hok
 have HB := Aside0.mk hB
 have HC := Aside0.mk cI
 have HB0 := Aside0.mk b0
 have HLT : Aside0 (w.heap.size < W.heap.size) := ⟨by rw [hW]; simp⟩
 unfold encC
 clear hB b0 hF1 hx he hxa hok hF cI hal
 go_enter Try.func12, Try.ntmps12
 go_wp2_with fail
 rw [← hW]
 clear hW
 go_wp2_with fail
 refine HC.out.mono ?_
 rintro e w1 ⟨rfl, rfl⟩
 clear HC
 go_wp2
 go_quiet (fail)
 rename_i nq
 obtain ⟨W3, hW3⟩ : ∃ W3 : World, W3 = W.drewN nq := ⟨_, rfl⟩
 rw [← hW3]
 have hb3 : Below W.heap.size W W3 := by rw [hW3]; exact pw_below_drewN (Below.refl _ _) _
 have hF3 := HF1.out.below hb3
 have HBx := Aside0.mk (below_step HB.out hb3)
 have b3 := (hb3.block _ HLT.out).trans HB0.out
 clear hW3 hb3 q0 q1 q2 q3 q4 q5 q6 q7 k0
 obtain ⟨q0, q1, q2, q3, q4, q5, q6, q7⟩ := box_cells b3
 have hx := HH.out.1
 have he := HH.out.2
 obtain ⟨s3, f3⟩ := hF3.cI hx he 4 (by omega)
 replace s3 : W3.cell? ⟨gi, a * 17 + 4, none⟩ = some (.int .i64 x.f0.f4) := s3
 obtain ⟨s4, f4⟩ := hF3.cI hx he 5 (by omega)
 replace s4 : W3.cell? ⟨gi, a * 17 + 5, none⟩ = some (.int .i64 x.f0.f5) := s4
 have hS1 := hF3.setI' hx he (j := 4) (x' := Item.node x (setUid x.f0 x5)) (u := .int .i64 (max x5 0)) (by omega) rfl rfl
 have hlen : (F.I.set a (Item.node x (setUid x.f0 x5))).length = F.I.length := List.length_set
 have hS1' : FsW base g ⟨F.I.set a (Item.node x (setUid x.f0 x5)), F.D, F.C⟩ (W3.setCell ⟨gi, a * 17 + 4, none⟩ (.int .i64 (max x5 0))) (.slice (some ⟨gi, 0, none⟩) (F.I.set a (Item.node x (setUid x.f0 x5))).length capi) v2 v3 es := by rw [hlen]; exact hS1
 have hS2 := hS1'.setI' (i := a) (x := Item.node x (setUid x.f0 x5)) (List.getElem?_set_self (by have := (List.getElem?_eq_some_iff.1 hx).1; exact this)) he (j := 5) (x' := Item.node x (setGid (setUid x.f0 x5) x6)) (u := .int .i64 (max x6 0)) (by omega) rfl rfl
 rw [List.set_set, hlen] at hS2
 have HS := Aside0.mk hS2
 clear hS1 hS1' hS2 hlen
 generalize x.f0.f4 = y3 at *
 generalize x.f0.f5 = y4 at *
 clear b3 hF3 hx he
 go_wp2
 go_region
 go_wp2
 go_ret2
 refine ⟨rfl, ⟨_, _, _, _, HS.out.same rfl, HOK.out⟩, ?_⟩
 exact (((Held.of_below HBx.out _).setCell (p := ⟨gi, a * 17 + 4, none⟩) (.inl (HOK.out gi (.inr (.inl rfl)))) _).setCell (p := ⟨gi, a * 17 + 5, none⟩) (.inl (HOK.out gi (.inr (.inl rfl)))) _).drew
set_option maxHeartbeats 4000000 in
set_option maxRecDepth 100000 in
theorem do_time0 (base g : Nat) (ok : Nat → Prop) (F : Fs) (c : Chg) (w : World) (h : FsAt base g ok F w) (hk : c.f0 = 6) (ha : 0 ≤ c.f2 ∧ c.f2 < F.I.length) (hl : F.I.length ≤ 1000) (hA : c.f5 = 0) :
  Calls Try.prog 12 #[.pointer (some ⟨g, 0, none⟩), .agg (encC c).toArray] w fun e w' => e = .returned (.tuple #[.int .i64 0, .int .i64 0]) ∧ FsAt base g ok (F.setI c.f2.toNat (Item.node (F.at c.f2.toNat) (setT (F.at c.f2.toNat).f0 0 c.f7))) w' ∧ Held w w' ok := by
 obtain ⟨v1, v2, v3, es, hF, hok⟩ := h
 obtain ⟨x0, x1, x2, x3, x4, x5, x6, x7⟩ := c
 simp only at ha hk hA ⊢
 subst hk
 subst hA
 obtain ⟨a, rfl⟩ : ∃ a : Nat, x2 = a := ⟨x2.toNat, by omega⟩
 rw [Int.toNat_natCast]
 have hal : a < F.I.length := by omega
 obtain ⟨gi, capi, rfl, hcap⟩ := hF.form1 (by omega)
 obtain ⟨x, hx⟩ : ∃ x, F.I[a]? = some x := ⟨_, List.getElem?_eq_getElem hal⟩
 obtain ⟨e, he⟩ : ∃ e, es[a]? = some e := ⟨_, List.getElem?_eq_getElem (by rw [← hF.len]; exact hal)⟩
 have hxa : F.at a = x := by unfold Fs.at; rw [List.getD_eq_getElem?_getD, hx]; rfl
 rw [hxa]
 obtain ⟨W, hW⟩ : ∃ W : World, W = w.alloc (.cells #[.int .i64 6, .int .i64 x1, .int .i64 (a : Int), .string x3, .string x4, .int .i64 0, .int .i64 x6, .int .i64 x7] TC) := ⟨_, rfl⟩
 have hB : Below w.heap.size w W := by rw [hW]; exact (Below.refl _ w).alloc (Nat.le_refl _) _
 have b0 : W.heap[w.heap.size]? = some (.cells #[.int .i64 6, .int .i64 x1, .int .i64 (a : Int), .string x3, .string x4, .int .i64 0, .int .i64 x6, .int .i64 x7] TC (0, 0)) := by rw [hW]; exact heap_alloc_new w _
 have hF1 := hF.below hB
 have k0 : W.cell? ⟨g, 0, none⟩ = some (.slice (some ⟨gi, 0, none⟩) F.I.length capi) := (blk_cell hF1.blk 0).trans rfl
 obtain ⟨q0, q1, q2, q3, q4, q5, q6, q7⟩ := box_cells b0
 have n1 : (0 : Int) ≤ (a : Int) := by omega
 have n2 : (a : Int) < (F.I.length : Int) := by omega
 have cI := is_calls g F a W hF1.read
 rw [Fs.has_yes n1 n2] at cI
 have HF1 := Aside0.mk hF1
 have HH := Aside0.mk (And.intro hx he)
 have HOK := Aside0.mk hok
 have HB := Aside0.mk hB
 have HC := Aside0.mk cI
 have HB0 := Aside0.mk b0
 have HLT : Aside0 (w.heap.size < W.heap.size) := ⟨by rw [hW]; simp⟩
 unfold encC
 clear hB b0 hF1 hx he hxa hok hF cI hal
 go_enter Try.func12, Try.ntmps12
 go_wp2_with fail
 rw [← hW]
 clear hW
 go_wp2_with fail
 refine HC.out.mono ?_
 rintro e w1 ⟨rfl, rfl⟩
 clear HC
 go_wp2
 go_quiet (fail)
 rename_i nq
 obtain ⟨W3, hW3⟩ : ∃ W3 : World, W3 = W.drewN nq := ⟨_, rfl⟩
 rw [← hW3]
 have hb3 : Below W.heap.size W W3 := by rw [hW3]; exact pw_below_drewN (Below.refl _ _) _
 have hF3 := HF1.out.below hb3
 have HBx := Aside0.mk (below_step HB.out hb3)
 have b3 := (hb3.block _ HLT.out).trans HB0.out
 clear hW3 hb3 q0 q1 q2 q3 q4 q5 q6 q7 k0
 obtain ⟨q0, q1, q2, q3, q4, q5, q6, q7⟩ := box_cells b3
 have hx := HH.out.1
 have he := HH.out.2
 obtain ⟨s3, f3⟩ := hF3.cI hx he 9 (by omega)
 replace s3 : W3.cell? ⟨gi, a * 17 + 9, none⟩ = some (.int .i64 x.f0.f9.f0) := s3
 have hS := hF3.setI' hx he (j := 9) (x' := Item.node x (setT x.f0 0 x7)) (u := .int .i64 x7) (by omega) rfl rfl
 have HS := Aside0.mk hS
 clear hS
 generalize x.f0.f9.f0 = y3 at *
 clear b3 hF3 hx he
 go_wp2
 go_region
 go_wp2
 go_ret2
 refine ⟨rfl, ⟨_, _, _, _, HS.out.same rfl, HOK.out⟩, ?_⟩
 exact ((Held.of_below HBx.out _).setCell (p := ⟨gi, a * 17 + 9, none⟩) (.inl (HOK.out gi (.inr (.inl rfl)))) _).drew
set_option maxHeartbeats 4000000 in
set_option maxRecDepth 100000 in
theorem do_time1 (base g : Nat) (ok : Nat → Prop) (F : Fs) (c : Chg) (w : World) (h : FsAt base g ok F w) (hk : c.f0 = 6) (ha : 0 ≤ c.f2 ∧ c.f2 < F.I.length) (hl : F.I.length ≤ 1000) (hA : c.f5 = 1) :
  Calls Try.prog 12 #[.pointer (some ⟨g, 0, none⟩), .agg (encC c).toArray] w fun e w' => e = .returned (.tuple #[.int .i64 0, .int .i64 0]) ∧ FsAt base g ok (F.setI c.f2.toNat (Item.node (F.at c.f2.toNat) (setT (F.at c.f2.toNat).f0 1 c.f7))) w' ∧ Held w w' ok := by
 obtain ⟨v1, v2, v3, es, hF, hok⟩ := h
 obtain ⟨x0, x1, x2, x3, x4, x5, x6, x7⟩ := c
 simp only at ha hk hA ⊢
 subst hk
 subst hA
 obtain ⟨a, rfl⟩ : ∃ a : Nat, x2 = a := ⟨x2.toNat, by omega⟩
 rw [Int.toNat_natCast]
 have hal : a < F.I.length := by omega
 obtain ⟨gi, capi, rfl, hcap⟩ := hF.form1 (by omega)
 obtain ⟨x, hx⟩ : ∃ x, F.I[a]? = some x := ⟨_, List.getElem?_eq_getElem hal⟩
 obtain ⟨e, he⟩ : ∃ e, es[a]? = some e := ⟨_, List.getElem?_eq_getElem (by rw [← hF.len]; exact hal)⟩
 have hxa : F.at a = x := by unfold Fs.at; rw [List.getD_eq_getElem?_getD, hx]; rfl
 rw [hxa]
 obtain ⟨W, hW⟩ : ∃ W : World, W = w.alloc (.cells #[.int .i64 6, .int .i64 x1, .int .i64 (a : Int), .string x3, .string x4, .int .i64 1, .int .i64 x6, .int .i64 x7] TC) := ⟨_, rfl⟩
 have hB : Below w.heap.size w W := by rw [hW]; exact (Below.refl _ w).alloc (Nat.le_refl _) _
 have b0 : W.heap[w.heap.size]? = some (.cells #[.int .i64 6, .int .i64 x1, .int .i64 (a : Int), .string x3, .string x4, .int .i64 1, .int .i64 x6, .int .i64 x7] TC (0, 0)) := by rw [hW]; exact heap_alloc_new w _
 have hF1 := hF.below hB
 have k0 : W.cell? ⟨g, 0, none⟩ = some (.slice (some ⟨gi, 0, none⟩) F.I.length capi) := (blk_cell hF1.blk 0).trans rfl
 obtain ⟨q0, q1, q2, q3, q4, q5, q6, q7⟩ := box_cells b0
 have n1 : (0 : Int) ≤ (a : Int) := by omega
 have n2 : (a : Int) < (F.I.length : Int) := by omega
 have cI := is_calls g F a W hF1.read
 rw [Fs.has_yes n1 n2] at cI
 have HF1 := Aside0.mk hF1
 have HH := Aside0.mk (And.intro hx he)
 have HOK := Aside0.mk hok
 have HB := Aside0.mk hB
 have HC := Aside0.mk cI
 have HB0 := Aside0.mk b0
 have HLT : Aside0 (w.heap.size < W.heap.size) := ⟨by rw [hW]; simp⟩
 unfold encC
 clear hB b0 hF1 hx he hxa hok hF cI hal
 go_enter Try.func12, Try.ntmps12
 go_wp2_with fail
 rw [← hW]
 clear hW
 go_wp2_with fail
 refine HC.out.mono ?_
 rintro e w1 ⟨rfl, rfl⟩
 clear HC
 go_wp2
 go_quiet (fail)
 rename_i nq
 obtain ⟨W3, hW3⟩ : ∃ W3 : World, W3 = W.drewN nq := ⟨_, rfl⟩
 rw [← hW3]
 have hb3 : Below W.heap.size W W3 := by rw [hW3]; exact pw_below_drewN (Below.refl _ _) _
 have hF3 := HF1.out.below hb3
 have HBx := Aside0.mk (below_step HB.out hb3)
 have b3 := (hb3.block _ HLT.out).trans HB0.out
 clear hW3 hb3 q0 q1 q2 q3 q4 q5 q6 q7 k0
 obtain ⟨q0, q1, q2, q3, q4, q5, q6, q7⟩ := box_cells b3
 have hx := HH.out.1
 have he := HH.out.2
 obtain ⟨s3, f3⟩ := hF3.cI hx he 10 (by omega)
 replace s3 : W3.cell? ⟨gi, a * 17 + 10, none⟩ = some (.int .i64 x.f0.f9.f1) := s3
 have hS := hF3.setI' hx he (j := 10) (x' := Item.node x (setT x.f0 1 x7)) (u := .int .i64 x7) (by omega) rfl rfl
 have HS := Aside0.mk hS
 clear hS
 generalize x.f0.f9.f1 = y3 at *
 clear b3 hF3 hx he
 go_wp2
 go_region
 go_wp2
 go_ret2
 refine ⟨rfl, ⟨_, _, _, _, HS.out.same rfl, HOK.out⟩, ?_⟩
 exact ((Held.of_below HBx.out _).setCell (p := ⟨gi, a * 17 + 10, none⟩) (.inl (HOK.out gi (.inr (.inl rfl)))) _).drew
set_option maxHeartbeats 4000000 in
set_option maxRecDepth 100000 in
theorem do_time2 (base g : Nat) (ok : Nat → Prop) (F : Fs) (c : Chg) (w : World) (h : FsAt base g ok F w) (hk : c.f0 = 6) (ha : 0 ≤ c.f2 ∧ c.f2 < F.I.length) (hl : F.I.length ≤ 1000) (hA : c.f5 = 2) :
  Calls Try.prog 12 #[.pointer (some ⟨g, 0, none⟩), .agg (encC c).toArray] w fun e w' => e = .returned (.tuple #[.int .i64 0, .int .i64 0]) ∧ FsAt base g ok (F.setI c.f2.toNat (Item.node (F.at c.f2.toNat) (setT (F.at c.f2.toNat).f0 2 c.f7))) w' ∧ Held w w' ok := by
 obtain ⟨v1, v2, v3, es, hF, hok⟩ := h
 obtain ⟨x0, x1, x2, x3, x4, x5, x6, x7⟩ := c
 simp only at ha hk hA ⊢
 subst hk
 subst hA
 obtain ⟨a, rfl⟩ : ∃ a : Nat, x2 = a := ⟨x2.toNat, by omega⟩
 rw [Int.toNat_natCast]
 have hal : a < F.I.length := by omega
 obtain ⟨gi, capi, rfl, hcap⟩ := hF.form1 (by omega)
 obtain ⟨x, hx⟩ : ∃ x, F.I[a]? = some x := ⟨_, List.getElem?_eq_getElem hal⟩
 obtain ⟨e, he⟩ : ∃ e, es[a]? = some e := ⟨_, List.getElem?_eq_getElem (by rw [← hF.len]; exact hal)⟩
 have hxa : F.at a = x := by unfold Fs.at; rw [List.getD_eq_getElem?_getD, hx]; rfl
 rw [hxa]
 obtain ⟨W, hW⟩ : ∃ W : World, W = w.alloc (.cells #[.int .i64 6, .int .i64 x1, .int .i64 (a : Int), .string x3, .string x4, .int .i64 2, .int .i64 x6, .int .i64 x7] TC) := ⟨_, rfl⟩
 have hB : Below w.heap.size w W := by rw [hW]; exact (Below.refl _ w).alloc (Nat.le_refl _) _
 have b0 : W.heap[w.heap.size]? = some (.cells #[.int .i64 6, .int .i64 x1, .int .i64 (a : Int), .string x3, .string x4, .int .i64 2, .int .i64 x6, .int .i64 x7] TC (0, 0)) := by rw [hW]; exact heap_alloc_new w _
 have hF1 := hF.below hB
 have k0 : W.cell? ⟨g, 0, none⟩ = some (.slice (some ⟨gi, 0, none⟩) F.I.length capi) := (blk_cell hF1.blk 0).trans rfl
 obtain ⟨q0, q1, q2, q3, q4, q5, q6, q7⟩ := box_cells b0
 have n1 : (0 : Int) ≤ (a : Int) := by omega
 have n2 : (a : Int) < (F.I.length : Int) := by omega
 have cI := is_calls g F a W hF1.read
 rw [Fs.has_yes n1 n2] at cI
 have HF1 := Aside0.mk hF1
 have HH := Aside0.mk (And.intro hx he)
 have HOK := Aside0.mk hok
 have HB := Aside0.mk hB
 have HC := Aside0.mk cI
 have HB0 := Aside0.mk b0
 have HLT : Aside0 (w.heap.size < W.heap.size) := ⟨by rw [hW]; simp⟩
 unfold encC
 clear hB b0 hF1 hx he hxa hok hF cI hal
 go_enter Try.func12, Try.ntmps12
 go_wp2_with fail
 rw [← hW]
 clear hW
 go_wp2_with fail
 refine HC.out.mono ?_
 rintro e w1 ⟨rfl, rfl⟩
 clear HC
 go_wp2
 go_quiet (fail)
 rename_i nq
 obtain ⟨W3, hW3⟩ : ∃ W3 : World, W3 = W.drewN nq := ⟨_, rfl⟩
 rw [← hW3]
 have hb3 : Below W.heap.size W W3 := by rw [hW3]; exact pw_below_drewN (Below.refl _ _) _
 have hF3 := HF1.out.below hb3
 have HBx := Aside0.mk (below_step HB.out hb3)
 have b3 := (hb3.block _ HLT.out).trans HB0.out
 clear hW3 hb3 q0 q1 q2 q3 q4 q5 q6 q7 k0
 obtain ⟨q0, q1, q2, q3, q4, q5, q6, q7⟩ := box_cells b3
 have hx := HH.out.1
 have he := HH.out.2
 obtain ⟨s3, f3⟩ := hF3.cI hx he 11 (by omega)
 replace s3 : W3.cell? ⟨gi, a * 17 + 11, none⟩ = some (.int .i64 x.f0.f9.f2) := s3
 have hS := hF3.setI' hx he (j := 11) (x' := Item.node x (setT x.f0 2 x7)) (u := .int .i64 x7) (by omega) rfl rfl
 have HS := Aside0.mk hS
 clear hS
 generalize x.f0.f9.f2 = y3 at *
 clear b3 hF3 hx he
 go_wp2
 go_region
 go_wp2
 go_ret2
 refine ⟨rfl, ⟨_, _, _, _, HS.out.same rfl, HOK.out⟩, ?_⟩
 exact ((Held.of_below HBx.out _).setCell (p := ⟨gi, a * 17 + 11, none⟩) (.inl (HOK.out gi (.inr (.inl rfl)))) _).drew
set_option maxHeartbeats 4000000 in
set_option maxRecDepth 100000 in
theorem do_timeX (base g : Nat) (ok : Nat → Prop) (F : Fs) (c : Chg) (w : World) (h : FsAt base g ok F w) (hk : c.f0 = 6) (ha : 0 ≤ c.f2 ∧ c.f2 < F.I.length) (hl : F.I.length ≤ 1000) (hA : c.f5 < 0 ∨ 2 < c.f5) :
  Calls Try.prog 12 #[.pointer (some ⟨g, 0, none⟩), .agg (encC c).toArray] w fun e w' => e = .returned (.tuple #[.int .i64 0, .int .i64 1]) ∧ Below w.heap.size w w' := by
 obtain ⟨v1, v2, v3, es, hF, hok⟩ := h
 obtain ⟨x0, x1, x2, x3, x4, x5, x6, x7⟩ := c
 simp only at ha hk hA ⊢
 subst hk
 obtain ⟨a, rfl⟩ : ∃ a : Nat, x2 = a := ⟨x2.toNat, by omega⟩
 have hal : a < F.I.length := by omega
 obtain ⟨gi, capi, rfl, hcap⟩ := hF.form1 (by omega)
 obtain ⟨x, hx⟩ : ∃ x, F.I[a]? = some x := ⟨_, List.getElem?_eq_getElem hal⟩
 obtain ⟨e, he⟩ : ∃ e, es[a]? = some e := ⟨_, List.getElem?_eq_getElem (by rw [← hF.len]; exact hal)⟩
 have hxa : F.at a = x := by unfold Fs.at; rw [List.getD_eq_getElem?_getD, hx]; rfl
 obtain ⟨W, hW⟩ : ∃ W : World, W = w.alloc (.cells #[.int .i64 6, .int .i64 x1, .int .i64 (a : Int), .string x3, .string x4, .int .i64 x5, .int .i64 x6, .int .i64 x7] TC) := ⟨_, rfl⟩
 have hB : Below w.heap.size w W := by rw [hW]; exact (Below.refl _ w).alloc (Nat.le_refl _) _
 have b0 : W.heap[w.heap.size]? = some (.cells #[.int .i64 6, .int .i64 x1, .int .i64 (a : Int), .string x3, .string x4, .int .i64 x5, .int .i64 x6, .int .i64 x7] TC (0, 0)) := by rw [hW]; exact heap_alloc_new w _
 have hF1 := hF.below hB
 have k0 : W.cell? ⟨g, 0, none⟩ = some (.slice (some ⟨gi, 0, none⟩) F.I.length capi) := (blk_cell hF1.blk 0).trans rfl
 obtain ⟨q0, q1, q2, q3, q4, q5, q6, q7⟩ := box_cells b0
 have n1 : (0 : Int) ≤ (a : Int) := by omega
 have n2 : (a : Int) < (F.I.length : Int) := by omega
 have cI := is_calls g F a W hF1.read
 rw [Fs.has_yes n1 n2] at cI
 have HF1 := Aside0.mk hF1
 have HH := Aside0.mk (And.intro hx he)
 have HOK := Aside0.mk hok
 have HB := Aside0.mk hB
 have HC := Aside0.mk cI
 have HB0 := Aside0.mk b0
 have HLT : Aside0 (w.heap.size < W.heap.size) := ⟨by rw [hW]; simp⟩
 unfold encC
 clear hB b0 hF1 hx he hxa hok hF cI hal
 go_enter Try.func12, Try.ntmps12
 go_wp2_with fail
 rw [← hW]
 clear hW
 go_wp2_with fail
 refine HC.out.mono ?_
 rintro e w1 ⟨rfl, rfl⟩
 clear HC
 go_wp2
 go_quiet (fail)
 rename_i nq
 obtain ⟨W3, hW3⟩ : ∃ W3 : World, W3 = W.drewN nq := ⟨_, rfl⟩
 rw [← hW3]
 have hb3 : Below W.heap.size W W3 := by rw [hW3]; exact pw_below_drewN (Below.refl _ _) _
 have hF3 := HF1.out.below hb3
 have HBx := Aside0.mk (below_step HB.out hb3)
 have b3 := (hb3.block _ HLT.out).trans HB0.out
 clear hW3 hb3 q0 q1 q2 q3 q4 q5 q6 q7 k0
 obtain ⟨q0, q1, q2, q3, q4, q5, q6, q7⟩ := box_cells b3
 have hx := HH.out.1
 have he := HH.out.2
 clear hx he
 clear b3 hF3
 by_cases c5 : x5 < 0
 ·have d5 : decide (x5 < 0) = true := decide_eq_true c5
  have d6 : decide ((2 : Int) < x5) = false := decide_eq_false (by omega)
  clear c5 hA
  go_wp2
  go_ret2
  exact ⟨rfl, HBx.out⟩
 ·have d5 : decide (x5 < 0) = false := decide_eq_false c5
  have d6 : decide ((2 : Int) < x5) = true := decide_eq_true (by omega)
  clear c5 hA
  go_wp2
  go_ret2
  exact ⟨rfl, HBx.out⟩
set_option maxHeartbeats 4000000 in
set_option maxRecDepth 100000 in
theorem do_low0 (g : Nat) (F : Fs) (c : Chg) (w : World) (h : FsR g F w) (hk : c.f0 < 0) :
  Calls Try.prog 12 #[.pointer (some ⟨g, 0, none⟩), .agg (encC c).toArray] w fun e w' => e = .returned (.tuple #[.int .i64 0, .int .i64 1]) ∧ Below w.heap.size w w' := by
 obtain ⟨x0, x1, x2, x3, x4, x5, x6, x7⟩ := c
 simp only at hk ⊢
 have d1 : decide (x0 < 0) = true := decide_eq_true hk
 have d2 : decide ((8 : Int) < x0) = false := decide_eq_false (by omega)
 obtain ⟨W, hW⟩ : ∃ W : World, W = w.alloc (.cells #[.int .i64 x0, .int .i64 x1, .int .i64 x2, .string x3, .string x4, .int .i64 x5, .int .i64 x6, .int .i64 x7] TC) := ⟨_, rfl⟩
 have hB : Below w.heap.size w W := by rw [hW]; exact (Below.refl _ w).alloc (Nat.le_refl _) _
 have b0 : W.heap[w.heap.size]? = some (.cells #[.int .i64 x0, .int .i64 x1, .int .i64 x2, .string x3, .string x4, .int .i64 x5, .int .i64 x6, .int .i64 x7] TC (0, 0)) := by rw [hW]; exact heap_alloc_new w _
 obtain ⟨q0, q1, q2, q3, q4, q5, q6, q7⟩ := box_cells b0
 have HLT : Aside0 (w.heap.size < W.heap.size) := ⟨by rw [hW]; simp⟩
 have HB0 := Aside0.mk b0
 have HR := Aside0.mk (h.below hB)
 have HB := Aside0.mk hB
 unfold encC
 clear hB b0 h
 go_enter Try.func12, Try.ntmps12
 go_wp2_with fail
 rw [← hW]
 clear hW
 go_wp2
 go_ret2
 exact ⟨rfl, HB.out⟩
set_option maxHeartbeats 4000000 in
set_option maxRecDepth 100000 in
theorem do_high0 (g : Nat) (F : Fs) (c : Chg) (w : World) (h : FsR g F w) (hk : 8 < c.f0) :
  Calls Try.prog 12 #[.pointer (some ⟨g, 0, none⟩), .agg (encC c).toArray] w fun e w' => e = .returned (.tuple #[.int .i64 0, .int .i64 1]) ∧ Below w.heap.size w w' := by
 obtain ⟨x0, x1, x2, x3, x4, x5, x6, x7⟩ := c
 simp only at hk ⊢
 have d1 : decide (x0 < 0) = false := decide_eq_false (by omega)
 have d2 : decide ((8 : Int) < x0) = true := decide_eq_true hk
 obtain ⟨W, hW⟩ : ∃ W : World, W = w.alloc (.cells #[.int .i64 x0, .int .i64 x1, .int .i64 x2, .string x3, .string x4, .int .i64 x5, .int .i64 x6, .int .i64 x7] TC) := ⟨_, rfl⟩
 have hB : Below w.heap.size w W := by rw [hW]; exact (Below.refl _ w).alloc (Nat.le_refl _) _
 have b0 : W.heap[w.heap.size]? = some (.cells #[.int .i64 x0, .int .i64 x1, .int .i64 x2, .string x3, .string x4, .int .i64 x5, .int .i64 x6, .int .i64 x7] TC (0, 0)) := by rw [hW]; exact heap_alloc_new w _
 obtain ⟨q0, q1, q2, q3, q4, q5, q6, q7⟩ := box_cells b0
 have HLT : Aside0 (w.heap.size < W.heap.size) := ⟨by rw [hW]; simp⟩
 have HB0 := Aside0.mk b0
 have HR := Aside0.mk (h.below hB)
 have HB := Aside0.mk hB
 unfold encC
 clear hB b0 h
 go_enter Try.func12, Try.ntmps12
 go_wp2_with fail
 rw [← hW]
 clear hW
 go_wp2
 go_ret2
 exact ⟨rfl, HB.out⟩
set_option maxHeartbeats 4000000 in
set_option maxRecDepth 100000 in
theorem do_none (g : Nat) (F : Fs) (c : Chg) (w : World) (h : FsR g F w) (hk : 4 ≤ c.f0 ∧ c.f0 ≤ 8) (hn : F.has c.f2 = false) :
  Calls Try.prog 12 #[.pointer (some ⟨g, 0, none⟩), .agg (encC c).toArray] w fun e w' => e = .returned (.tuple #[.int .i64 0, .int .i64 2]) ∧ Below w.heap.size w w' := by
 obtain ⟨x0, x1, x2, x3, x4, x5, x6, x7⟩ := c
 simp only at hk hn ⊢
 have d1 : decide (x0 < 0) = false := decide_eq_false (by omega)
 have d2 : decide ((8 : Int) < x0) = false := decide_eq_false (by omega)
 have d3 : decide (x0 < 4) = false := decide_eq_false (by omega)
 have cI := fun W' hh => is_calls g F x2 W' hh
 rw [hn] at cI
 have HC := Aside0.mk cI
 clear hk hn cI
 obtain ⟨W, hW⟩ : ∃ W : World, W = w.alloc (.cells #[.int .i64 x0, .int .i64 x1, .int .i64 x2, .string x3, .string x4, .int .i64 x5, .int .i64 x6, .int .i64 x7] TC) := ⟨_, rfl⟩
 have hB : Below w.heap.size w W := by rw [hW]; exact (Below.refl _ w).alloc (Nat.le_refl _) _
 have b0 : W.heap[w.heap.size]? = some (.cells #[.int .i64 x0, .int .i64 x1, .int .i64 x2, .string x3, .string x4, .int .i64 x5, .int .i64 x6, .int .i64 x7] TC (0, 0)) := by rw [hW]; exact heap_alloc_new w _
 obtain ⟨q0, q1, q2, q3, q4, q5, q6, q7⟩ := box_cells b0
 have HLT : Aside0 (w.heap.size < W.heap.size) := ⟨by rw [hW]; simp⟩
 have HB0 := Aside0.mk b0
 have HR := Aside0.mk (h.below hB)
 have HB := Aside0.mk hB
 unfold encC
 clear hB b0 h
 go_enter Try.func12, Try.ntmps12
 go_wp2_with fail
 rw [← hW]
 clear hW
 go_wp2_with fail
 refine (HC.out _ HR.out).mono ?_
 rintro e w1 ⟨rfl, rfl⟩
 clear HC
 go_wp2
 go_ret2
 exact ⟨rfl, HB.out⟩
end Go.Proofs.Ytlfldoghomnbkaa.QVfs
