import Derived.Test.YtlfldoghomnbkaaSVf6
-- Texts of this seat, what the claim does not reach struck out by a program.
namespace Go.Proofs.Ytlfldoghomnbkaa.QVfs
open Go.RowKit Go.Proofs.YtlfldoghomnbkaaW.PrintWords Go.Proofs.YtlfldoghomnbkaaW.PrintLast Go.Proofs.YtlfldoghomnbkaaW.PrintMore
set_option linter.unusedVariables false
set_option linter.unusedSimpArgs false
theorem Fs.wrongE_zero {F : Fs} {c : Chg} (h : F.wrongE c = 0) : F.placeE c = 0 ∧ F.fitsE c = 0 := by
 unfold Fs.wrongE at h
 split at h
 ·rename_i h1; exact ⟨h1, h⟩
 ·rename_i h1; exact absurd h h1
theorem Fs.make_at (F : Fs) (n : Node) (up : Int) (a : Nat) (h : a < F.I.length) : (F.make n up).at a = F.at a := by
 show (F.I ++ [_]).getD a zI = F.I.getD a zI
 simp [List.getD_eq_getElem?_getD, List.getElem?_append_left h]
theorem Fs.it_at (F : Fs) (a : Nat) : F.it (a : Int) = F.at a := by
 unfold Fs.it Fs.at rd_T74
 rw [Int.toNat_natCast]; rfl
set_option maxHeartbeats 4000000 in
set_option maxRecDepth 100000 in
theorem entry_name (base g : Nat) (ok : Nat → Prop) (F : Fs) (c : Chg) (w : World) (h : FsAt base g ok F w) (hs : c.f3.size ≤ 1000000) (hw : F.wrongE c = 0) (hk : c.f0 = 2) (hl : F.I.length ≤ 1000) (hb : (F.it c.f1).f1.length ≤ 100000) :
  Calls Try.prog 26 #[.pointer (some ⟨g, 0, none⟩), .agg (encC c).toArray] w fun e w' => e = .returned (.tuple #[.int .i64 0, .int .i64 0]) ∧ FsAt base g (fun k => ok k ∨ w.heap.size ≤ k) (F.put c.f1.toNat c.f3 c.f2.toNat) w' ∧ Held w w' ok := by
 have hz := Fs.wrongE_zero hw
 have hd := Fs.placeE_zero hz.1
 have ha := (Fs.dirE_zero hd).1
 have ht := Fs.fitsE_two hz.2 hk
 have cP := fun W' hh => place_calls g F c W' hh hs
 have cT := fun W' hh ha => fits_calls g F c W' hh ha
 rw [hz.1] at cP
 rw [hz.2] at cT
 clear hz hd hw
 obtain ⟨x0, x1, x2, x3, x4, x5, x6, x7⟩ := c
 simp only at ha ht hk hb hs ⊢
 obtain ⟨a, rfl⟩ : ∃ a : Nat, x1 = a := ⟨x1.toNat, by omega⟩
 obtain ⟨i, rfl⟩ : ∃ i : Nat, x2 = i := ⟨x2.toNat, by omega⟩
 subst hk
 rw [Int.toNat_natCast, Int.toNat_natCast]
 rw [Fs.it_at] at hb
 obtain ⟨W, hW⟩ : ∃ W : World, W = w.alloc (.cells #[.int .i64 2, .int .i64 (a : Int), .int .i64 (i : Int), .string x3, .string x4, .int .i64 x5, .int .i64 x6, .int .i64 x7] TC) := ⟨_, rfl⟩
 have hB : Below w.heap.size w W := by rw [hW]; exact (Below.refl _ w).alloc (Nat.le_refl _) _
 have b0 : W.heap[w.heap.size]? = some (.cells #[.int .i64 2, .int .i64 (a : Int), .int .i64 (i : Int), .string x3, .string x4, .int .i64 x5, .int .i64 x6, .int .i64 x7] TC (0, 0)) := by rw [hW]; exact heap_alloc_new w _
 have HA := Aside0.mk (FsAt.below h.tight hB)
 have HR := Aside0.mk (h.read.below hB)
 have hlt : w.heap.size < W.heap.size := by rw [hW]; simp
 have HB := Aside0.mk hB
 have HB0 := Aside0.mk b0
 unfold encC at cP cT ⊢
 clear hB b0 h
 go_enter Try.func26, Try.ntmps26
 go_wp2_with fail
 rw [← hW]
 clear hW
 refine (cP W HR.out).mono ?_
 rintro e w1 ⟨rfl, hb1⟩
 have b1' := (hb1.block _ hlt).trans HB0.out
 obtain ⟨q0, q1, q2, q3, q4, q5, q6, q7⟩ := box_cells b1'
 have HR1 := Aside0.mk (HR.out.below hb1)
 have HB1 := Aside0.mk (below_step HB.out hb1)
 have HA1 := Aside0.mk (FsAt.below HA.out hb1)
 have hlt1 : w.heap.size < w1.heap.size := Nat.lt_of_lt_of_le hlt hb1.size
 have HB01 := Aside0.mk b1'
 clear b1' hb1
 go_wp2_with fail
 refine (cT w1 HR1.out ha).mono ?_
 rintro e w2 ⟨rfl, hb2⟩
 clear q0 q1 q2 q3 q4 q5 q6 q7
 have b2' := (hb2.block _ hlt1).trans HB01.out
 obtain ⟨q0, q1, q2, q3, q4, q5, q6, q7⟩ := box_cells b2'
 have HB2 := Aside0.mk (below_step HB1.out hb2)
 have HA2 := Aside0.mk (FsAt.below HA1.out hb2)
 have HR2 := Aside0.mk (HR1.out.below hb2)
 have hlt2 : w.heap.size < w2.heap.size := Nat.lt_of_lt_of_le hlt1 hb2.size
 have HB02 := Aside0.mk b2'
 clear b2' hb2
 go_wp2_with fail
 refine (put_calls base g _ F ⟨2, (a : Int), (i : Int), x3, x4, x5, x6, x7⟩ a i w2 HA2.out rfl (by omega) (by omega) hl hb).mono ?_
 rintro e w3 ⟨rfl, hA3, hK3⟩
 have HA3 := Aside0.mk hA3
 have HK3 := Aside0.mk hK3
 clear hA3 hK3 q0 q1 q2 q3 q4 q5 q6 q7
 go_wp2
 go_ret2
 have hs2 := HB2.out.size
 refine ⟨rfl, FsAt.weak HA3.out (fun k hk => hk.elim (fun h => .inl h.1) (fun h => .inr (by omega))), ?_⟩
 exact (Held.of_below HB2.out ok).then_ HK3.out (fun k hk => .inl hk.1)
set_option maxHeartbeats 4000000 in
set_option maxRecDepth 100000 in
theorem entry_many (base g : Nat) (ok : Nat → Prop) (F : Fs) (c : Chg) (w : World) (h : FsAt base g ok F w) (hs : c.f3.size ≤ 1000000) (hw : F.wrongE c = 0) (hk : c.f0 ≠ 2) (hl : F.I.length ≤ 1000) (hm : 300 ≤ F.I.length) :
  Calls Try.prog 26 #[.pointer (some ⟨g, 0, none⟩), .agg (encC c).toArray] w fun e w' => e = .returned (.tuple #[.int .i64 0, .int .i64 9]) ∧ Below w.heap.size w w' := by
 have hz := Fs.wrongE_zero hw
 have hd := Fs.placeE_zero hz.1
 have ha := (Fs.dirE_zero hd).1
 have cP := fun W' hh => place_calls g F c W' hh hs
 have cT := fun W' hh ha => fits_calls g F c W' hh ha
 rw [hz.1] at cP
 rw [hz.2] at cT
 clear hz hd hw
 obtain ⟨x0, x1, x2, x3, x4, x5, x6, x7⟩ := c
 simp only at ha hk hs ⊢
 obtain ⟨a, rfl⟩ : ∃ a : Nat, x1 = a := ⟨x1.toNat, by omega⟩
 have bk : (x0 == 2) = false := beq_eq_false_iff_ne.2 hk
 have bm : decide ((300 : Int) ≤ (F.I.length : Int)) = true := decide_eq_true (by omega)
 clear hk
 obtain ⟨W, hW⟩ : ∃ W : World, W = w.alloc (.cells #[.int .i64 x0, .int .i64 (a : Int), .int .i64 x2, .string x3, .string x4, .int .i64 x5, .int .i64 x6, .int .i64 x7] TC) := ⟨_, rfl⟩
 have hB : Below w.heap.size w W := by rw [hW]; exact (Below.refl _ w).alloc (Nat.le_refl _) _
 have b0 : W.heap[w.heap.size]? = some (.cells #[.int .i64 x0, .int .i64 (a : Int), .int .i64 x2, .string x3, .string x4, .int .i64 x5, .int .i64 x6, .int .i64 x7] TC (0, 0)) := by rw [hW]; exact heap_alloc_new w _
 have HA := Aside0.mk (FsAt.below h.tight hB)
 have HR := Aside0.mk (h.read.below hB)
 have hlt : w.heap.size < W.heap.size := by rw [hW]; simp
 have HB := Aside0.mk hB
 have HB0 := Aside0.mk b0
 unfold encC at cP cT ⊢
 clear hB b0 h
 go_enter Try.func26, Try.ntmps26
 go_wp2_with fail
 rw [← hW]
 clear hW
 refine (cP W HR.out).mono ?_
 rintro e w1 ⟨rfl, hb1⟩
 have b1' := (hb1.block _ hlt).trans HB0.out
 obtain ⟨q0, q1, q2, q3, q4, q5, q6, q7⟩ := box_cells b1'
 have HR1 := Aside0.mk (HR.out.below hb1)
 have HB1 := Aside0.mk (below_step HB.out hb1)
 have HA1 := Aside0.mk (FsAt.below HA.out hb1)
 have hlt1 : w.heap.size < w1.heap.size := Nat.lt_of_lt_of_le hlt hb1.size
 have HB01 := Aside0.mk b1'
 clear b1' hb1
 go_wp2_with fail
 refine (cT w1 HR1.out ha).mono ?_
 rintro e w2 ⟨rfl, hb2⟩
 clear q0 q1 q2 q3 q4 q5 q6 q7
 have b2' := (hb2.block _ hlt1).trans HB01.out
 obtain ⟨q0, q1, q2, q3, q4, q5, q6, q7⟩ := box_cells b2'
 have HB2 := Aside0.mk (below_step HB1.out hb2)
 have HA2 := Aside0.mk (FsAt.below HA1.out hb2)
 have HR2 := Aside0.mk (HR1.out.below hb2)
 have hlt2 : w.heap.size < w2.heap.size := Nat.lt_of_lt_of_le hlt1 hb2.size
 have HB02 := Aside0.mk b2'
 clear b2' hb2
 obtain ⟨A0, c0, A1, cc1, A2, cc2, hbk, l0, l1, h1, h2, h3⟩ := HR2.out
 have k0 : w2.cell? ⟨g, 0, none⟩ = some (.slice A0 F.I.length c0) := (blk_cell hbk 0).trans rfl
 clear hbk h1 h2 h3
 go_wp2
 go_ret2
 exact ⟨rfl, HB2.out⟩
set_option maxHeartbeats 8000000 in
set_option maxRecDepth 100000 in
theorem entry_dir (base g : Nat) (ok : Nat → Prop) (F : Fs) (c : Chg) (w : World) (h : FsAt base g ok F w) (hs : c.f3.size ≤ 1000000) (hw : F.wrongE c = 0) (hk : c.f0 = 0) (hl : F.I.length < 300) (hC : F.C.length ≤ 1000) (hb : (F.it c.f1).f1.length ≤ 100000) (hdev : 1 ≤ (F.it c.f1).f0.f0 ∧ (F.it c.f1).f0.f0 ≤ F.C.length) :
  Calls Try.prog 26 #[.pointer (some ⟨g, 0, none⟩), .agg (encC c).toArray] w fun e w' => e = .returned (.tuple #[.int .i64 F.I.length, .int .i64 0]) ∧ FsAt base g (fun k => ok k ∨ w.heap.size ≤ k) ((F.make (newN (F.it c.f1).f0.f0 c) (newUp c)).put c.f1.toNat c.f3 F.I.length) w' ∧ Held w w' ok := by
 have hz := Fs.wrongE_zero hw
 have hd := Fs.placeE_zero hz.1
 have ha := (Fs.dirE_zero hd).1
 have cP := fun W' hh => place_calls g F c W' hh hs
 have cT := fun W' hh ha => fits_calls g F c W' hh ha
 rw [hz.1] at cP
 rw [hz.2] at cT
 clear hz hd hw
 obtain ⟨x0, x1, x2, x3, x4, x5, x6, x7⟩ := c
 simp only at ha hk hb hs hdev ⊢
 obtain ⟨a, rfl⟩ : ∃ a : Nat, x1 = a := ⟨x1.toNat, by omega⟩
 subst hk
 rw [Int.toNat_natCast]
 rw [Fs.it_at] at hb hdev ⊢
 have hn : newN (F.at a).f0.f0 ⟨0, (a : Int), x2, x3, x4, x5, x6, x7⟩ = dirN (F.at a).f0.f0 x5 := rfl
 have hu : newUp ⟨0, (a : Int), x2, x3, x4, x5, x6, x7⟩ = (a : Int) := rfl
 rw [hn, hu]
 clear hn hu
 have bm : decide ((300 : Int) ≤ (F.I.length : Int)) = false := decide_eq_false (by omega)
 obtain ⟨W, hW⟩ : ∃ W : World, W = w.alloc (.cells #[.int .i64 0, .int .i64 (a : Int), .int .i64 x2, .string x3, .string x4, .int .i64 x5, .int .i64 x6, .int .i64 x7] TC) := ⟨_, rfl⟩
 have hB : Below w.heap.size w W := by rw [hW]; exact (Below.refl _ w).alloc (Nat.le_refl _) _
 have b0 : W.heap[w.heap.size]? = some (.cells #[.int .i64 0, .int .i64 (a : Int), .int .i64 x2, .string x3, .string x4, .int .i64 x5, .int .i64 x6, .int .i64 x7] TC (0, 0)) := by rw [hW]; exact heap_alloc_new w _
 have HA := Aside0.mk (FsAt.below h.tight hB)
 have HR := Aside0.mk (h.read.below hB)
 have hlt : w.heap.size < W.heap.size := by rw [hW]; simp
 have HB := Aside0.mk hB
 have HB0 := Aside0.mk b0
 unfold encC at cP cT ⊢
 clear hB b0 h
 go_enter Try.func26, Try.ntmps26
 go_wp2_with fail
 rw [← hW]
 clear hW
 refine (cP W HR.out).mono ?_
 rintro e w1 ⟨rfl, hb1⟩
 have b1' := (hb1.block _ hlt).trans HB0.out
 obtain ⟨q0, q1, q2, q3, q4, q5, q6, q7⟩ := box_cells b1'
 have HR1 := Aside0.mk (HR.out.below hb1)
 have HB1 := Aside0.mk (below_step HB.out hb1)
 have HA1 := Aside0.mk (FsAt.below HA.out hb1)
 have hlt1 : w.heap.size < w1.heap.size := Nat.lt_of_lt_of_le hlt hb1.size
 have HB01 := Aside0.mk b1'
 clear b1' hb1
 go_wp2_with fail
 refine (cT w1 HR1.out ha).mono ?_
 rintro e w2 ⟨rfl, hb2⟩
 clear q0 q1 q2 q3 q4 q5 q6 q7
 have b2' := (hb2.block _ hlt1).trans HB01.out
 obtain ⟨q0, q1, q2, q3, q4, q5, q6, q7⟩ := box_cells b2'
 have HB2 := Aside0.mk (below_step HB1.out hb2)
 have HA2 := Aside0.mk (FsAt.below HA1.out hb2)
 have HR2 := Aside0.mk (HR1.out.below hb2)
 have hlt2 : w.heap.size < w2.heap.size := Nat.lt_of_lt_of_le hlt1 hb2.size
 have HB02 := Aside0.mk b2'
 clear b2' hb2
 obtain ⟨A0, c0, A1, cc1, A2, cc2, hbk, l0, l1, h1, h2, h3⟩ := HR2.out
 have k0 : w2.cell? ⟨g, 0, none⟩ = some (.slice A0 F.I.length c0) := (blk_cell hbk 0).trans rfl
 obtain ⟨ad, A13, c13, rfl, qd, _⟩ := at_T74 h1 (a : Int) ha.1 ha.2
 replace qd : w2.cell? (ad.add (a * 17)) = some (.int .i64 (F.at a).f0.f0) := by rw [← Fs.it_at]; exact qd
 have ha0 := ha.1
 have ha1 := ha.2
 clear hbk h1 h2 h3
 obtain ⟨dev, hdv⟩ : ∃ dev, dev = (F.at a).f0.f0 := ⟨_, rfl⟩
 rw [← hdv] at qd hdev
 have HDV := Aside0.mk hdv
 clear hdv
 go_wp2
 go_quiet (fail)
 rename_i nq
 obtain ⟨W3, hW3⟩ : ∃ W3 : World, W3 = w2.drewN nq := ⟨_, rfl⟩
 rw [← hW3]
 have hb3 : Below w2.heap.size w2 W3 := by rw [hW3]; exact pw_below_drewN (Below.refl _ _) _
 have b3' := (hb3.block _ hlt2).trans HB02.out
 clear q0 q1 q2 q3 q4 q5 q6 q7 k0 qd hW3
 obtain ⟨q0, q1, q2, q3, q4, q5, q6, q7⟩ := box_cells b3'
 have HB3 := Aside0.mk (below_step HB2.out hb3)
 have HA3 := Aside0.mk (FsAt.below HA2.out hb3)
 have hlt3 : w.heap.size < W3.heap.size := Nat.lt_of_lt_of_le hlt2 hb3.size
 have HB03 := Aside0.mk b3'
 clear b3' hb3
 go_wp2_with fail
 refine (dirNode_calls dev x5 W3).mono ?_
 rintro e w4 ⟨rfl, hb4⟩
 have b4' := (hb4.block _ hlt3).trans HB03.out
 clear q0 q1 q2 q3 q4 q5 q6 q7
 obtain ⟨q0, q1, q2, q3, q4, q5, q6, q7⟩ := box_cells b4'
 have HB4 := Aside0.mk (below_step HB3.out hb4)
 have HA4 := Aside0.mk (FsAt.below HA3.out hb4)
 have hlt4 : w.heap.size < w4.heap.size := Nat.lt_of_lt_of_le hlt3 hb4.size
 have HB04 := Aside0.mk b4'
 clear b4' hb4
 unfold encN
 go_wp2_with fail
 generalize hW5 : World.alloc _ _ = W5
 have hb5 : Below w4.heap.size w4 W5 := by rw [← hW5]; exact (Below.refl _ w4).alloc (Nat.le_refl _) _
 clear hW5
 have HB5 := Aside0.mk (below_step HB4.out hb5)
 have HA5 := Aside0.mk (FsAt.below HA4.out hb5)
 have hlt5 : w.heap.size < W5.heap.size := Nat.lt_of_lt_of_le hlt4 hb5.size
 have HB05 := Aside0.mk ((hb5.block _ hlt4).trans HB04.out)
 clear hb5 q0 q1 q2 q3 q4 q5 q6 q7
 refine (make_calls base g _ F (dirN dev x5) ((a : Int)) W5 HA5.out hdev.1 hdev.2 (by omega) hC).mono ?_
 rintro e w6 ⟨rfl, hA6, hK6⟩
 have b6' := blk_kept HB05.out hK6.kept (fun h => by have := h.2; omega)
 obtain ⟨q0, q1, q2, q3, q4, q5, q6, q7⟩ := box_cells b6'
 obtain ⟨F1, hF1⟩ : ∃ F1, F1 = F.make (dirN dev x5) ((a : Int)) := ⟨_, rfl⟩
 rw [← hF1] at hA6
 have hF1a : F1.at a = F.at a := by rw [hF1]; exact Fs.make_at F _ _ a (by omega)
 have hF1l : F1.I.length = F.I.length + 1 := by rw [hF1]; unfold Fs.make; simp
 have hb1 : (F1.at a).f1.length ≤ 100000 := by rw [hF1a]; exact hb
 have HA6 := Aside0.mk hA6
 have HK6 := Aside0.mk hK6
 have HF1 := Aside0.mk (And.intro hF1l hb1)
 have HFe := Aside0.mk hF1
 clear hA6 hK6 b6' hF1 hF1a hF1l hb1
 go_wp2_with fail
 refine (put_calls base g _ F1 ⟨0, (a : Int), x2, x3, x4, x5, x6, x7⟩ a F.I.length w6 HA6.out rfl (by have := HF1.out.1; omega) (by have := HF1.out.1; omega) (by have := HF1.out.1; omega) HF1.out.2).mono ?_
 rintro e w7 ⟨rfl, hA7, hK7⟩
 have HA7 := Aside0.mk hA7
 have HK7 := Aside0.mk hK7
 clear hA7 hK7 q0 q1 q2 q3 q4 q5 q6 q7
 go_wp2
 go_ret2
 have hs5 := HB5.out.size
 have hs6 := HK6.out.size
 rw [← HDV.out, ← HFe.out]
 refine ⟨rfl, FsAt.weak HA7.out (fun k hk => hk.elim (fun h => h.elim (fun h => .inl h.1) (fun h => .inr (by omega))) (fun h => .inr (by omega))), ?_⟩
 exact ((Held.of_below HB5.out ok).then_ HK6.out (fun k hk => .inl hk.1)).then_ HK7.out (fun k hk => hk.elim (fun h => .inl h.1) (fun h => .inr (by omega)))
set_option maxHeartbeats 8000000 in
set_option maxRecDepth 100000 in
theorem entry_file (base g : Nat) (ok : Nat → Prop) (F : Fs) (c : Chg) (w : World) (h : FsAt base g ok F w) (hs : c.f3.size ≤ 1000000) (hw : F.wrongE c = 0) (hk : c.f0 = 1) (hl : F.I.length < 300) (hC : F.C.length ≤ 1000) (hb : (F.it c.f1).f1.length ≤ 100000) (hdev : 1 ≤ (F.it c.f1).f0.f0 ∧ (F.it c.f1).f0.f0 ≤ F.C.length) (hN : c.f7 ≤ 9223372036854775807) :
  Calls Try.prog 26 #[.pointer (some ⟨g, 0, none⟩), .agg (encC c).toArray] w fun e w' => e = .returned (.tuple #[.int .i64 F.I.length, .int .i64 0]) ∧ FsAt base g (fun k => ok k ∨ w.heap.size ≤ k) ((F.make (newN (F.it c.f1).f0.f0 c) (newUp c)).put c.f1.toNat c.f3 F.I.length) w' ∧ Held w w' ok := by
 have hz := Fs.wrongE_zero hw
 have hd := Fs.placeE_zero hz.1
 have ha := (Fs.dirE_zero hd).1
 have h70 := Fs.fitsE_one hz.2 hk
 have cP := fun W' hh => place_calls g F c W' hh hs
 have cT := fun W' hh ha => fits_calls g F c W' hh ha
 rw [hz.1] at cP
 rw [hz.2] at cT
 clear hz hd hw
 obtain ⟨x0, x1, x2, x3, x4, x5, x6, x7⟩ := c
 simp only at ha hk hb hs hdev h70 hN ⊢
 obtain ⟨a, rfl⟩ : ∃ a : Nat, x1 = a := ⟨x1.toNat, by omega⟩
 subst hk
 rw [Int.toNat_natCast]
 rw [Fs.it_at] at hb hdev ⊢
 have hn : newN (F.at a).f0.f0 ⟨1, (a : Int), x2, x3, x4, x5, x6, x7⟩ = fileN (F.at a).f0.f0 x5 x7 := rfl
 have hu : newUp ⟨1, (a : Int), x2, x3, x4, x5, x6, x7⟩ = -1 := rfl
 rw [hn, hu]
 clear hn hu
 have bm : decide ((300 : Int) ≤ (F.I.length : Int)) = false := decide_eq_false (by omega)
 obtain ⟨W, hW⟩ : ∃ W : World, W = w.alloc (.cells #[.int .i64 1, .int .i64 (a : Int), .int .i64 x2, .string x3, .string x4, .int .i64 x5, .int .i64 x6, .int .i64 x7] TC) := ⟨_, rfl⟩
 have hB : Below w.heap.size w W := by rw [hW]; exact (Below.refl _ w).alloc (Nat.le_refl _) _
 have b0 : W.heap[w.heap.size]? = some (.cells #[.int .i64 1, .int .i64 (a : Int), .int .i64 x2, .string x3, .string x4, .int .i64 x5, .int .i64 x6, .int .i64 x7] TC (0, 0)) := by rw [hW]; exact heap_alloc_new w _
 have HA := Aside0.mk (FsAt.below h.tight hB)
 have HR := Aside0.mk (h.read.below hB)
 have hlt : w.heap.size < W.heap.size := by rw [hW]; simp
 have HB := Aside0.mk hB
 have HB0 := Aside0.mk b0
 unfold encC at cP cT ⊢
 clear hB b0 h
 go_enter Try.func26, Try.ntmps26
 go_wp2_with fail
 rw [← hW]
 clear hW
 refine (cP W HR.out).mono ?_
 rintro e w1 ⟨rfl, hb1⟩
 have b1' := (hb1.block _ hlt).trans HB0.out
 obtain ⟨q0, q1, q2, q3, q4, q5, q6, q7⟩ := box_cells b1'
 have HR1 := Aside0.mk (HR.out.below hb1)
 have HB1 := Aside0.mk (below_step HB.out hb1)
 have HA1 := Aside0.mk (FsAt.below HA.out hb1)
 have hlt1 : w.heap.size < w1.heap.size := Nat.lt_of_lt_of_le hlt hb1.size
 have HB01 := Aside0.mk b1'
 clear b1' hb1
 go_wp2_with fail
 refine (cT w1 HR1.out ha).mono ?_
 rintro e w2 ⟨rfl, hb2⟩
 clear q0 q1 q2 q3 q4 q5 q6 q7
 have b2' := (hb2.block _ hlt1).trans HB01.out
 obtain ⟨q0, q1, q2, q3, q4, q5, q6, q7⟩ := box_cells b2'
 have HB2 := Aside0.mk (below_step HB1.out hb2)
 have HA2 := Aside0.mk (FsAt.below HA1.out hb2)
 have HR2 := Aside0.mk (HR1.out.below hb2)
 have hlt2 : w.heap.size < w2.heap.size := Nat.lt_of_lt_of_le hlt1 hb2.size
 have HB02 := Aside0.mk b2'
 clear b2' hb2
 obtain ⟨A0, c0, A1, cc1, A2, cc2, hbk, l0, l1, h1, h2, h3⟩ := HR2.out
 have k0 : w2.cell? ⟨g, 0, none⟩ = some (.slice A0 F.I.length c0) := (blk_cell hbk 0).trans rfl
 obtain ⟨ad, A13, c13, rfl, qd, _⟩ := at_T74 h1 (a : Int) ha.1 ha.2
 replace qd : w2.cell? (ad.add (a * 17)) = some (.int .i64 (F.at a).f0.f0) := by rw [← Fs.it_at]; exact qd
 have ha0 := ha.1
 have ha1 := ha.2
 clear hbk h1 h2 h3
 obtain ⟨dev, hdv⟩ : ∃ dev, dev = (F.at a).f0.f0 := ⟨_, rfl⟩
 rw [← hdv] at qd hdev
 have HDV := Aside0.mk hdv
 clear hdv
 go_wp2
 go_quiet (fail)
 rename_i nq
 obtain ⟨W3, hW3⟩ : ∃ W3 : World, W3 = w2.drewN nq := ⟨_, rfl⟩
 rw [← hW3]
 have hb3 : Below w2.heap.size w2 W3 := by rw [hW3]; exact pw_below_drewN (Below.refl _ _) _
 have b3' := (hb3.block _ hlt2).trans HB02.out
 clear q0 q1 q2 q3 q4 q5 q6 q7 k0 qd hW3
 obtain ⟨q0, q1, q2, q3, q4, q5, q6, q7⟩ := box_cells b3'
 have HB3 := Aside0.mk (below_step HB2.out hb3)
 have HA3 := Aside0.mk (FsAt.below HA2.out hb3)
 have hlt3 : w.heap.size < W3.heap.size := Nat.lt_of_lt_of_le hlt2 hb3.size
 have HB03 := Aside0.mk b3'
 clear b3' hb3
 go_wp2_with fail
 refine (dirNode_calls dev x5 W3).mono ?_
 rintro e w4 ⟨rfl, hb4⟩
 have b4' := (hb4.block _ hlt3).trans HB03.out
 clear q0 q1 q2 q3 q4 q5 q6 q7
 obtain ⟨q0, q1, q2, q3, q4, q5, q6, q7⟩ := box_cells b4'
 have HB4 := Aside0.mk (below_step HB3.out hb4)
 have HA4 := Aside0.mk (FsAt.below HA3.out hb4)
 have hlt4 : w.heap.size < w4.heap.size := Nat.lt_of_lt_of_le hlt3 hb4.size
 have HB04 := Aside0.mk b4'
 clear b4' hb4
 unfold encN
 go_wp2_with fail
 generalize hW5 : World.alloc _ _ = W5
 have hb5 : Below w4.heap.size w4 W5 := by rw [← hW5]; exact (Below.refl _ w4).alloc (Nat.le_refl _) _
 clear hW5
 have HB5 := Aside0.mk (below_step HB4.out hb5)
 have HA5 := Aside0.mk (FsAt.below HA4.out hb5)
 have hlt5 : w.heap.size < W5.heap.size := Nat.lt_of_lt_of_le hlt4 hb5.size
 have HB05 := Aside0.mk ((hb5.block _ hlt4).trans HB04.out)
 clear hb5 q0 q1 q2 q3 q4 q5 q6 q7
 refine (make_calls base g _ F (fileN dev x5 x7) (-1) W5 HA5.out hdev.1 hdev.2 (by omega) hC).mono ?_
 rintro e w6 ⟨rfl, hA6, hK6⟩
 have b6' := blk_kept HB05.out hK6.kept (fun h => by have := h.2; omega)
 obtain ⟨q0, q1, q2, q3, q4, q5, q6, q7⟩ := box_cells b6'
 obtain ⟨F1, hF1⟩ : ∃ F1, F1 = F.make (fileN dev x5 x7) (-1) := ⟨_, rfl⟩
 rw [← hF1] at hA6
 have hF1a : F1.at a = F.at a := by rw [hF1]; exact Fs.make_at F _ _ a (by omega)
 have hF1l : F1.I.length = F.I.length + 1 := by rw [hF1]; unfold Fs.make; simp
 have hb1 : (F1.at a).f1.length ≤ 100000 := by rw [hF1a]; exact hb
 have HA6 := Aside0.mk hA6
 have HK6 := Aside0.mk hK6
 have HF1 := Aside0.mk (And.intro hF1l hb1)
 have HFe := Aside0.mk hF1
 clear hA6 hK6 b6' hF1 hF1a hF1l hb1
 go_wp2_with fail
 refine (put_calls base g _ F1 ⟨1, (a : Int), x2, x3, x4, x5, x6, x7⟩ a F.I.length w6 HA6.out rfl (by have := HF1.out.1; omega) (by have := HF1.out.1; omega) (by have := HF1.out.1; omega) HF1.out.2).mono ?_
 rintro e w7 ⟨rfl, hA7, hK7⟩
 have HA7 := Aside0.mk hA7
 have HK7 := Aside0.mk hK7
 clear hA7 hK7 q0 q1 q2 q3 q4 q5 q6 q7
 go_wp2
 go_ret2
 have hs5 := HB5.out.size
 have hs6 := HK6.out.size
 rw [← HDV.out, ← HFe.out]
 refine ⟨rfl, FsAt.weak HA7.out (fun k hk => hk.elim (fun h => h.elim (fun h => .inl h.1) (fun h => .inr (by omega))) (fun h => .inr (by omega))), ?_⟩
 exact ((Held.of_below HB5.out ok).then_ HK6.out (fun k hk => .inl hk.1)).then_ HK7.out (fun k hk => hk.elim (fun h => .inl h.1) (fun h => .inr (by omega)))
set_option maxHeartbeats 8000000 in
set_option maxRecDepth 100000 in
theorem entry_sym (base g : Nat) (ok : Nat → Prop) (F : Fs) (c : Chg) (w : World) (h : FsAt base g ok F w) (hs : c.f3.size ≤ 1000000) (hw : F.wrongE c = 0) (hk : c.f0 = 3) (hl : F.I.length < 300) (hC : F.C.length ≤ 1000) (hb : (F.it c.f1).f1.length ≤ 100000) (hdev : 1 ≤ (F.it c.f1).f0.f0 ∧ (F.it c.f1).f0.f0 ≤ F.C.length) :
  Calls Try.prog 26 #[.pointer (some ⟨g, 0, none⟩), .agg (encC c).toArray] w fun e w' => e = .returned (.tuple #[.int .i64 F.I.length, .int .i64 0]) ∧ FsAt base g (fun k => ok k ∨ w.heap.size ≤ k) ((F.make (newN (F.it c.f1).f0.f0 c) (newUp c)).put c.f1.toNat c.f3 F.I.length) w' ∧ Held w w' ok := by
 have hz := Fs.wrongE_zero hw
 have hd := Fs.placeE_zero hz.1
 have ha := (Fs.dirE_zero hd).1
 have cP := fun W' hh => place_calls g F c W' hh hs
 have cT := fun W' hh ha => fits_calls g F c W' hh ha
 rw [hz.1] at cP
 rw [hz.2] at cT
 clear hz hd hw
 obtain ⟨x0, x1, x2, x3, x4, x5, x6, x7⟩ := c
 simp only at ha hk hb hs hdev ⊢
 obtain ⟨a, rfl⟩ : ∃ a : Nat, x1 = a := ⟨x1.toNat, by omega⟩
 subst hk
 rw [Int.toNat_natCast]
 rw [Fs.it_at] at hb hdev ⊢
 have hn : newN (F.at a).f0.f0 ⟨3, (a : Int), x2, x3, x4, x5, x6, x7⟩ = linkN (F.at a).f0.f0 x4 := rfl
 have hu : newUp ⟨3, (a : Int), x2, x3, x4, x5, x6, x7⟩ = -1 := rfl
 rw [hn, hu]
 clear hn hu
 have bm : decide ((300 : Int) ≤ (F.I.length : Int)) = false := decide_eq_false (by omega)
 obtain ⟨W, hW⟩ : ∃ W : World, W = w.alloc (.cells #[.int .i64 3, .int .i64 (a : Int), .int .i64 x2, .string x3, .string x4, .int .i64 x5, .int .i64 x6, .int .i64 x7] TC) := ⟨_, rfl⟩
 have hB : Below w.heap.size w W := by rw [hW]; exact (Below.refl _ w).alloc (Nat.le_refl _) _
 have b0 : W.heap[w.heap.size]? = some (.cells #[.int .i64 3, .int .i64 (a : Int), .int .i64 x2, .string x3, .string x4, .int .i64 x5, .int .i64 x6, .int .i64 x7] TC (0, 0)) := by rw [hW]; exact heap_alloc_new w _
 have HA := Aside0.mk (FsAt.below h.tight hB)
 have HR := Aside0.mk (h.read.below hB)
 have hlt : w.heap.size < W.heap.size := by rw [hW]; simp
 have HB := Aside0.mk hB
 have HB0 := Aside0.mk b0
 unfold encC at cP cT ⊢
 clear hB b0 h
 go_enter Try.func26, Try.ntmps26
 go_wp2_with fail
 rw [← hW]
 clear hW
 refine (cP W HR.out).mono ?_
 rintro e w1 ⟨rfl, hb1⟩
 have b1' := (hb1.block _ hlt).trans HB0.out
 obtain ⟨q0, q1, q2, q3, q4, q5, q6, q7⟩ := box_cells b1'
 have HR1 := Aside0.mk (HR.out.below hb1)
 have HB1 := Aside0.mk (below_step HB.out hb1)
 have HA1 := Aside0.mk (FsAt.below HA.out hb1)
 have hlt1 : w.heap.size < w1.heap.size := Nat.lt_of_lt_of_le hlt hb1.size
 have HB01 := Aside0.mk b1'
 clear b1' hb1
 go_wp2_with fail
 refine (cT w1 HR1.out ha).mono ?_
 rintro e w2 ⟨rfl, hb2⟩
 clear q0 q1 q2 q3 q4 q5 q6 q7
 have b2' := (hb2.block _ hlt1).trans HB01.out
 obtain ⟨q0, q1, q2, q3, q4, q5, q6, q7⟩ := box_cells b2'
 have HB2 := Aside0.mk (below_step HB1.out hb2)
 have HA2 := Aside0.mk (FsAt.below HA1.out hb2)
 have HR2 := Aside0.mk (HR1.out.below hb2)
 have hlt2 : w.heap.size < w2.heap.size := Nat.lt_of_lt_of_le hlt1 hb2.size
 have HB02 := Aside0.mk b2'
 clear b2' hb2
 obtain ⟨A0, c0, A1, cc1, A2, cc2, hbk, l0, l1, h1, h2, h3⟩ := HR2.out
 have k0 : w2.cell? ⟨g, 0, none⟩ = some (.slice A0 F.I.length c0) := (blk_cell hbk 0).trans rfl
 obtain ⟨ad, A13, c13, rfl, qd, _⟩ := at_T74 h1 (a : Int) ha.1 ha.2
 replace qd : w2.cell? (ad.add (a * 17)) = some (.int .i64 (F.at a).f0.f0) := by rw [← Fs.it_at]; exact qd
 have ha0 := ha.1
 have ha1 := ha.2
 clear hbk h1 h2 h3
 obtain ⟨dev, hdv⟩ : ∃ dev, dev = (F.at a).f0.f0 := ⟨_, rfl⟩
 rw [← hdv] at qd hdev
 have HDV := Aside0.mk hdv
 clear hdv
 go_wp2
 go_quiet (fail)
 rename_i nq
 obtain ⟨W3, hW3⟩ : ∃ W3 : World, W3 = w2.drewN nq := ⟨_, rfl⟩
 rw [← hW3]
 have hb3 : Below w2.heap.size w2 W3 := by rw [hW3]; exact pw_below_drewN (Below.refl _ _) _
 have b3' := (hb3.block _ hlt2).trans HB02.out
 clear q0 q1 q2 q3 q4 q5 q6 q7 k0 qd hW3
 obtain ⟨q0, q1, q2, q3, q4, q5, q6, q7⟩ := box_cells b3'
 have HB3 := Aside0.mk (below_step HB2.out hb3)
 have HA3 := Aside0.mk (FsAt.below HA2.out hb3)
 have hlt3 : w.heap.size < W3.heap.size := Nat.lt_of_lt_of_le hlt2 hb3.size
 have HB03 := Aside0.mk b3'
 clear b3' hb3
 go_wp2_with fail
 refine (dirNode_calls dev x5 W3).mono ?_
 rintro e w4 ⟨rfl, hb4⟩
 have b4' := (hb4.block _ hlt3).trans HB03.out
 clear q0 q1 q2 q3 q4 q5 q6 q7
 obtain ⟨q0, q1, q2, q3, q4, q5, q6, q7⟩ := box_cells b4'
 have HB4 := Aside0.mk (below_step HB3.out hb4)
 have HA4 := Aside0.mk (FsAt.below HA3.out hb4)
 have hlt4 : w.heap.size < w4.heap.size := Nat.lt_of_lt_of_le hlt3 hb4.size
 have HB04 := Aside0.mk b4'
 clear b4' hb4
 unfold encN
 go_wp2_with fail
 generalize hW5 : World.alloc _ _ = W5
 have hb5 : Below w4.heap.size w4 W5 := by rw [← hW5]; exact (Below.refl _ w4).alloc (Nat.le_refl _) _
 clear hW5
 have HB5 := Aside0.mk (below_step HB4.out hb5)
 have HA5 := Aside0.mk (FsAt.below HA4.out hb5)
 have hlt5 : w.heap.size < W5.heap.size := Nat.lt_of_lt_of_le hlt4 hb5.size
 have HB05 := Aside0.mk ((hb5.block _ hlt4).trans HB04.out)
 clear hb5 q0 q1 q2 q3 q4 q5 q6 q7
 refine (make_calls base g _ F (linkN dev x4) (-1) W5 HA5.out hdev.1 hdev.2 (by omega) hC).mono ?_
 rintro e w6 ⟨rfl, hA6, hK6⟩
 have b6' := blk_kept HB05.out hK6.kept (fun h => by have := h.2; omega)
 obtain ⟨q0, q1, q2, q3, q4, q5, q6, q7⟩ := box_cells b6'
 obtain ⟨F1, hF1⟩ : ∃ F1, F1 = F.make (linkN dev x4) (-1) := ⟨_, rfl⟩
 rw [← hF1] at hA6
 have hF1a : F1.at a = F.at a := by rw [hF1]; exact Fs.make_at F _ _ a (by omega)
 have hF1l : F1.I.length = F.I.length + 1 := by rw [hF1]; unfold Fs.make; simp
 have hb1 : (F1.at a).f1.length ≤ 100000 := by rw [hF1a]; exact hb
 have HA6 := Aside0.mk hA6
 have HK6 := Aside0.mk hK6
 have HF1 := Aside0.mk (And.intro hF1l hb1)
 have HFe := Aside0.mk hF1
 clear hA6 hK6 b6' hF1 hF1a hF1l hb1
 go_wp2_with fail
 refine (put_calls base g _ F1 ⟨3, (a : Int), x2, x3, x4, x5, x6, x7⟩ a F.I.length w6 HA6.out rfl (by have := HF1.out.1; omega) (by have := HF1.out.1; omega) (by have := HF1.out.1; omega) HF1.out.2).mono ?_
 rintro e w7 ⟨rfl, hA7, hK7⟩
 have HA7 := Aside0.mk hA7
 have HK7 := Aside0.mk hK7
 clear hA7 hK7 q0 q1 q2 q3 q4 q5 q6 q7
 go_wp2
 go_ret2
 have hs5 := HB5.out.size
 have hs6 := HK6.out.size
 rw [← HDV.out, ← HFe.out]
 refine ⟨rfl, FsAt.weak HA7.out (fun k hk => hk.elim (fun h => h.elim (fun h => .inl h.1) (fun h => .inr (by omega))) (fun h => .inr (by omega))), ?_⟩
 exact ((Held.of_below HB5.out ok).then_ HK6.out (fun k hk => .inl hk.1)).then_ HK7.out (fun k hk => hk.elim (fun h => .inl h.1) (fun h => .inr (by omega)))
end Go.Proofs.Ytlfldoghomnbkaa.QVfs
