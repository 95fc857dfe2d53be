import Derived.Test.YtlfldoghomnbkaaSXVf12
-- Texts of this seat, what the claim does not reach struck out by a program.
section
namespace Go.Proofs.Ytlfldoghomnbkaa.QVfs
open Go.RowKit Go.Proofs.YtlfldoghomnbkaaW.PrintWords Go.Proofs.YtlfldoghomnbkaaW.PrintLast Go.Proofs.YtlfldoghomnbkaaW.PrintMore
set_option linter.unusedVariables false
set_option linter.unusedSimpArgs false
set_option maxHeartbeats 4000000 in
set_option maxRecDepth 100000 in
theorem do_mount (g : Nat) (F : Fs) (c : Chg) (w : World) (P : Int → Int → World → Prop) (hk : c.f0 = 7) (hR : FsR g F w) (ha : 0 ≤ c.f2 ∧ c.f2 < F.I.length)
  (h : ∀ W, Below w.heap.size w W → Calls Try.prog 28 #[.pointer (some ⟨g, 0, none⟩), .agg (encC c).toArray] W fun e w' => ∃ n x, e = .returned (.tuple #[.int .i64 n, .int .i64 x]) ∧ P n x w') :
  Calls Try.prog 12 #[.pointer (some ⟨g, 0, none⟩), .agg (encC c).toArray] w fun e w' => ∃ n x, e = .returned (.tuple #[.int .i64 n, .int .i64 x]) ∧ P n x w' := by
 obtain ⟨x0, x1, x2, x3, x4, x5, x6, x7⟩ := c
 simp only at hk ha
 subst hk
 obtain ⟨W, hW⟩ : ∃ W : World, W = w.alloc (.cells #[.int .i64 7, .int .i64 x1, .int .i64 x2, .string x3, .string x4, .int .i64 x5, .int .i64 x6, .int .i64 x7] TC) := ⟨_, rfl⟩
 have hB : Below w.heap.size w W := by rw [hW]; exact (Below.refl _ w).alloc (Nat.le_refl _) _
 have b0 : W.heap[w.heap.size]? = some (.cells #[.int .i64 7, .int .i64 x1, .int .i64 x2, .string x3, .string x4, .int .i64 x5, .int .i64 x6, .int .i64 x7] TC (0, 0)) := by rw [hW]; exact heap_alloc_new w _
 obtain ⟨q0, q1, q2, q3, q4, q5, q6, q7⟩ := box_cells b0
 have cI := is_calls g F x2 W (hR.below hB)
 rw [Fs.has_yes ha.1 ha.2] at cI
 have HI := Aside0.mk cI
 have HB := Aside0.mk hB
 have HC := Aside0.mk h
 unfold encC at HC ⊢
 clear h hB b0 cI hR ha
 go_enter Try.func12, Try.ntmps12
 go_wp2_with fail
 rw [← hW]
 clear hW
 go_wp2_with fail
 refine HI.out.mono ?_
 rintro e w1 ⟨rfl, rfl⟩
 clear HI
 go_wp2_with fail
 refine (HC.out W HB.out).mono ?_
 rintro e w1 ⟨n, x, rfl, hp⟩
 go_wp2
 go_ret2
 exact ⟨n, x, rfl, hp⟩
end Go.Proofs.Ytlfldoghomnbkaa.QVfs
end

section
namespace Go.Proofs.Ytlfldoghomnbkaa.QVfs
open Go.RowKit Go.Proofs.YtlfldoghomnbkaaW.PrintWords Go.Proofs.YtlfldoghomnbkaaW.PrintLast Go.Proofs.YtlfldoghomnbkaaW.PrintMore
set_option linter.unusedVariables false
set_option linter.unusedSimpArgs false
structure Fs.Ok (F : Fs) (m : Nat) : Prop where
 I : F.I.length ≤ 300
 D : F.D.length ≤ F.I.length
 C : F.C.length = F.D.length
 dev : ∀ i, i < F.I.length → 1 ≤ (F.at i).f0.f0 ∧ (F.at i).f0.f0 ≤ F.C.length
 ent : ∀ i, i < F.I.length → (F.at i).f1.length ≤ m
def Fs.doE (F : Fs) (c : Chg) : Int :=
 if c.f0 < 0 ∨ 8 < c.f0 then 1
 else if c.f0 < 4 then (if F.wrongE c = 0 then (if c.f0 ≠ 2 ∧ 300 ≤ F.I.length then 9 else 0) else F.wrongE c)
 else if F.has c.f2 = true then (if c.f0 = 7 then F.mountE c.f2 else if c.f0 = 6 ∧ (c.f5 < 0 ∨ 2 < c.f5) then 1 else 0)
 else 2
def Fs.doN (F : Fs) (c : Chg) : Int := if F.doE c = 0 ∧ (c.f0 = 0 ∨ c.f0 = 1 ∨ c.f0 = 3 ∨ c.f0 = 7) then F.I.length else 0
def Fs.doF (F : Fs) (c : Chg) : Fs :=
 if F.doE c ≠ 0 then F
 else if c.f0 = 2 then F.put c.f1.toNat c.f3 c.f2.toNat
 else if c.f0 < 4 then (F.make (newN (F.it c.f1).f0.f0 c) (newUp c)).put c.f1.toNat c.f3 F.I.length
 else if c.f0 = 4 then F.setI c.f2.toNat (Item.node (F.at c.f2.toNat) (setMode (F.at c.f2.toNat).f0 c.f5))
 else if c.f0 = 5 then F.setI c.f2.toNat (Item.node (F.at c.f2.toNat) (setGid (setUid (F.at c.f2.toNat).f0 c.f5) c.f6))
 else if c.f0 = 6 then F.setI c.f2.toNat (Item.node (F.at c.f2.toNat) (setT (F.at c.f2.toNat).f0 c.f5 c.f7))
 else if c.f0 = 7 then (F.device c.f5 (F.it c.f2).f2).setI c.f2.toNat (Item.over ((F.device c.f5 (F.it c.f2).f2).at c.f2.toNat) F.I.length)
 else F.setI c.f2.toNat (Item.dies (F.at c.f2.toNat))
theorem Fs.wrong_at {F : Fs} {c : Chg} (h : F.wrongE c = 0) : 0 ≤ c.f1 ∧ c.f1 < F.I.length := (Fs.dirE_zero (Fs.placeE_zero (Fs.wrongE_zero h).1)).1
theorem Fs.it_nat (F : Fs) {t : Int} (h : 0 ≤ t) : F.it t = F.at t.toNat := by
 obtain ⟨a, rfl⟩ : ∃ a : Nat, t = a := ⟨t.toNat, by omega⟩
 rw [Fs.it_at, Int.toNat_natCast]
section
variable {base g : Nat} {ok : Nat → Prop} {F : Fs} {w : World} {m : Nat}
abbrev DoPost (base g : Nat) (ok : Nat → Prop) (w : World) (n x : Int) (F' : Fs) (e : Ending) (w' : World) : Prop :=
 e = .returned (.tuple #[.int .i64 n, .int .i64 x]) ∧ FsAt base g (fun k => ok k ∨ w.heap.size ≤ k) F' w' ∧ Held w w' ok
theorem post_below (h : FsAt base g ok F w) {n x : Int} {e : Ending} {w' : World} (hp : e = .returned (.tuple #[.int .i64 n, .int .i64 x]) ∧ Below w.heap.size w w') : DoPost base g ok w n x F e w' :=
 ⟨hp.1, FsAt.weak (h.below hp.2) (fun _ hk => Or.inl hk), Held.of_below hp.2 _⟩
theorem post_same {n x : Int} {F' : Fs} {e : Ending} {w' : World} (hp : e = .returned (.tuple #[.int .i64 n, .int .i64 x]) ∧ FsAt base g ok F' w' ∧ Held w w' ok) : DoPost base g ok w n x F' e w' :=
 ⟨hp.1, FsAt.weak hp.2.1 (fun _ hk => Or.inl hk), hp.2.2⟩
theorem post_from {W : World} (hB : Below w.heap.size w W) {n x : Int} {F' : Fs} {e : Ending} {w' : World}
  (hp : e = .returned (.tuple #[.int .i64 n, .int .i64 x]) ∧ FsAt base g (fun k => (ok k ∧ k < w.heap.size) ∨ W.heap.size ≤ k) F' w' ∧ Held W w' (fun k => ok k ∧ k < w.heap.size)) : DoPost base g ok w n x F' e w' := by
 refine ⟨hp.1, FsAt.weak hp.2.1 (fun k hk => ?_), (Held.of_below hB _).then_ hp.2.2 (fun k hk => Or.inl hk.1)⟩
 rcases hk with hk | hk
 ·exact Or.inl hk.1
 ·exact Or.inr (Nat.le_trans hB.size hk)
theorem do_entry (c : Chg) (hO : F.Ok m) (hm : m ≤ 100000) (h : FsAt base g ok F w) (hs : c.f3.size ≤ 1000000) (hN : c.f7 ≤ 9223372036854775807) (k0 : 0 ≤ c.f0) (k4 : c.f0 < 4) :
  Calls Try.prog 12 #[.pointer (some ⟨g, 0, none⟩), .agg (encC c).toArray] w (DoPost base g ok w (F.doN c) (F.doE c) (F.doF c)) := by
 have hI := hO.I
 have hD := hO.D
 have hC := hO.C
 suffices hh : Calls Try.prog 12 #[.pointer (some ⟨g, 0, none⟩), .agg (encC c).toArray] w fun e w' => ∃ n x, e = .returned (.tuple #[.int .i64 n, .int .i64 x]) ∧ (fun n x w' => DoPost base g ok w (F.doN c) (F.doE c) (F.doF c) (.returned (.tuple #[.int .i64 n, .int .i64 x])) w') n x w' from
  hh.mono (fun e w' ⟨n, x, he, hp⟩ => by rw [he]; exact hp)
 refine do_low g c w _ k0 k4 (fun W hB => ?_)
 have hA := h.tight.below hB
 have fin : ∀ {n x : Int} {F' : Fs} {Q : Ending → World → Prop}, n = F.doN c → x = F.doE c → F' = F.doF c → (∀ e w', Q e w' → DoPost base g ok w n x F' e w') → Calls Try.prog 26 #[.pointer (some ⟨g, 0, none⟩), .agg (encC c).toArray] W Q → Calls Try.prog 26 #[.pointer (some ⟨g, 0, none⟩), .agg (encC c).toArray] W fun e w' => ∃ n x, e = .returned (.tuple #[.int .i64 n, .int .i64 x]) ∧ (fun n x w' => DoPost base g ok w (F.doN c) (F.doE c) (F.doF c) (.returned (.tuple #[.int .i64 n, .int .i64 x])) w') n x w' := by
  rintro n x F' Q rfl rfl rfl hQ hc
  refine hc.mono (fun e w' hq => ?_)
  have hp := hQ e w' hq
  have he := hp.1
  rw [he] at hp
  exact ⟨_, _, he, hp⟩
 have nb : ¬ (c.f0 < 0 ∨ 8 < c.f0) := by omega
 have below : ∀ {n x : Int} {e : Ending} {w' : World}, (e = .returned (.tuple #[.int .i64 n, .int .i64 x]) ∧ Below W.heap.size W w') → DoPost base g ok w n x F e w' := fun {n x e w'} hp => post_below h ⟨hp.1, below_step hB hp.2⟩
 by_cases hw : F.wrongE c = 0
 ·have ha := Fs.wrong_at hw
  have hen : (F.it c.f1).f1.length ≤ 100000 := by rw [Fs.it_nat F ha.1]; exact Nat.le_trans (hO.ent _ (by omega)) hm
  have hdev : 1 ≤ (F.it c.f1).f0.f0 ∧ (F.it c.f1).f0.f0 ≤ F.C.length := by rw [Fs.it_nat F ha.1]; exact hO.dev _ (by omega)
  by_cases c2 : c.f0 = 2
  ·have eE : F.doE c = 0 := by unfold Fs.doE; rw [if_neg nb, if_pos k4, if_pos hw, if_neg (by omega)]
   refine fin (n := 0) (x := 0) (F' := F.put c.f1.toNat c.f3 c.f2.toNat) ?_ eE.symm ?_ ?_ (entry_name base g _ F c W hA hs hw c2 (by omega) hen)
   ·unfold Fs.doN; rw [if_neg (by omega)]
   ·unfold Fs.doF; rw [if_neg (by omega), if_pos c2]
   ·exact fun e w' hp => post_from hB hp
  ·by_cases cm : 300 ≤ F.I.length
   ·have eE : F.doE c = 9 := by unfold Fs.doE; rw [if_neg nb, if_pos k4, if_pos hw, if_pos ⟨c2, cm⟩]
    refine fin (n := 0) (x := 9) (F' := F) ?_ eE.symm ?_ ?_ (entry_many base g _ F c W hA hs hw c2 (by omega) cm)
    ·unfold Fs.doN; rw [if_neg (by omega)]
    ·unfold Fs.doF; rw [if_pos (by omega)]
    ·exact fun e w' hp => below hp
   ·have eE : F.doE c = 0 := by unfold Fs.doE; rw [if_neg nb, if_pos k4, if_pos hw, if_neg (by omega)]
    have eN : (F.I.length : Int) = F.doN c := by unfold Fs.doN; rw [if_pos (by omega)]
    have eF : (F.make (newN (F.it c.f1).f0.f0 c) (newUp c)).put c.f1.toNat c.f3 F.I.length = F.doF c := by unfold Fs.doF; rw [if_neg (by omega), if_neg c2, if_pos k4]
    have hx : c.f0 = 0 ∨ c.f0 = 1 ∨ c.f0 = 3 := by omega
    rcases hx with hx | hx | hx
    ·exact fin eN eE.symm eF (fun e w' hp => post_from hB hp) (entry_dir base g _ F c W hA hs hw hx (by omega) (by omega) hen hdev)
    ·exact fin eN eE.symm eF (fun e w' hp => post_from hB hp) (entry_file base g _ F c W hA hs hw hx (by omega) (by omega) hen hdev hN)
    ·exact fin eN eE.symm eF (fun e w' hp => post_from hB hp) (entry_sym base g _ F c W hA hs hw hx (by omega) (by omega) hen hdev)
 ·have eE : F.doE c = F.wrongE c := by unfold Fs.doE; rw [if_neg nb, if_pos k4, if_neg hw]
  refine fin (n := 0) (x := F.wrongE c) (F' := F) ?_ eE.symm ?_ ?_ (entry_wrong base g _ F c W hA hs hw)
  ·unfold Fs.doN; rw [if_neg (by rw [eE]; omega)]
  ·unfold Fs.doF; rw [if_pos (by rw [eE]; exact hw)]
  ·exact fun e w' hp => below hp
theorem do_node (c : Chg) (hO : F.Ok m) (h : FsAt base g ok F w) (k4 : 4 ≤ c.f0) (k8 : c.f0 ≤ 8) :
  Calls Try.prog 12 #[.pointer (some ⟨g, 0, none⟩), .agg (encC c).toArray] w (DoPost base g ok w (F.doN c) (F.doE c) (F.doF c)) := by
 have hI := hO.I
 have hD := hO.D
 have hC := hO.C
 have fin : ∀ {n x : Int} {F' : Fs} {Q : Ending → World → Prop}, n = F.doN c → x = F.doE c → F' = F.doF c → (∀ e w', Q e w' → DoPost base g ok w n x F' e w') → Calls Try.prog 12 #[.pointer (some ⟨g, 0, none⟩), .agg (encC c).toArray] w Q → Calls Try.prog 12 #[.pointer (some ⟨g, 0, none⟩), .agg (encC c).toArray] w (DoPost base g ok w (F.doN c) (F.doE c) (F.doF c)) := by
  rintro n x F' Q rfl rfl rfl hQ hc
  exact hc.mono hQ
 have nb : ¬ (c.f0 < 0 ∨ 8 < c.f0) := by omega
 have n4 : ¬ c.f0 < 4 := by omega
 cases hh : F.has c.f2 with
 | false =>
  have eE : F.doE c = 2 := by unfold Fs.doE; rw [if_neg nb, if_neg n4, if_neg (by rw [hh]; decide)]
  refine fin (n := 0) (x := 2) (F' := F) ?_ eE.symm ?_ (fun e w' hp => post_below h hp) (do_none g F c w h.read ⟨k4, k8⟩ hh)
  ·unfold Fs.doN; rw [if_neg (by omega)]
  ·unfold Fs.doF; rw [if_pos (by omega)]
 | true =>
  have ha : 0 ≤ c.f2 ∧ c.f2 < F.I.length := of_decide_eq_true hh
  have hx : c.f0 = 4 ∨ c.f0 = 5 ∨ c.f0 = 6 ∨ c.f0 = 7 ∨ c.f0 = 8 := by omega
  rcases hx with hx | hx | hx | hx | hx
  ·have eE : F.doE c = 0 := by unfold Fs.doE; rw [if_neg nb, if_neg n4, if_pos hh, if_neg (by omega), if_neg (by omega)]
   refine fin (n := 0) (x := 0) ?_ eE.symm ?_ (fun e w' hp => post_same hp) (do_mode base g ok F c w h hx ha (by omega))
   ·unfold Fs.doN; rw [if_neg (by omega)]
   ·unfold Fs.doF; rw [if_neg (by omega), if_neg (by omega), if_neg n4, if_pos hx]
  ·have eE : F.doE c = 0 := by unfold Fs.doE; rw [if_neg nb, if_neg n4, if_pos hh, if_neg (by omega), if_neg (by omega)]
   refine fin (n := 0) (x := 0) ?_ eE.symm ?_ (fun e w' hp => post_same hp) (do_owner base g ok F c w h hx ha (by omega))
   ·unfold Fs.doN; rw [if_neg (by omega)]
   ·unfold Fs.doF; rw [if_neg (by omega), if_neg (by omega), if_neg n4, if_neg (by omega), if_pos hx]
  ·by_cases hA : c.f5 < 0 ∨ 2 < c.f5
   ·have eE : F.doE c = 1 := by unfold Fs.doE; rw [if_neg nb, if_neg n4, if_pos hh, if_neg (by omega), if_pos ⟨hx, hA⟩]
    refine fin (n := 0) (x := 1) (F' := F) ?_ eE.symm ?_ (fun e w' hp => post_below h hp) (do_timeX base g ok F c w h hx ha (by omega) hA)
    ·unfold Fs.doN; rw [if_neg (by omega)]
    ·unfold Fs.doF; rw [if_pos (by omega)]
   ·have eE : F.doE c = 0 := by unfold Fs.doE; rw [if_neg nb, if_neg n4, if_pos hh, if_neg (by omega), if_neg (by omega)]
    have eN : (0 : Int) = F.doN c := by unfold Fs.doN; rw [if_neg (by omega)]
    have eF : F.setI c.f2.toNat (Item.node (F.at c.f2.toNat) (setT (F.at c.f2.toNat).f0 c.f5 c.f7)) = F.doF c := by unfold Fs.doF; rw [if_neg (by omega), if_neg (by omega), if_neg n4, if_neg (by omega), if_neg (by omega), if_pos hx]
    have h5 : c.f5 = 0 ∨ c.f5 = 1 ∨ c.f5 = 2 := by omega
    rcases h5 with h5 | h5 | h5
    ·exact fin eN eE.symm (by rw [← eF, h5]) (fun e w' hp => post_same hp) (do_time0 base g ok F c w h hx ha (by omega) h5)
    ·exact fin eN eE.symm (by rw [← eF, h5]) (fun e w' hp => post_same hp) (do_time1 base g ok F c w h hx ha (by omega) h5)
    ·exact fin eN eE.symm (by rw [← eF, h5]) (fun e w' hp => post_same hp) (do_time2 base g ok F c w h hx ha (by omega) h5)
  ·have eE : F.doE c = F.mountE c.f2 := by unfold Fs.doE; rw [if_neg nb, if_neg n4, if_pos hh, if_pos hx]
   suffices hq : Calls Try.prog 12 #[.pointer (some ⟨g, 0, none⟩), .agg (encC c).toArray] w fun e w' => ∃ n x, e = .returned (.tuple #[.int .i64 n, .int .i64 x]) ∧ (fun n x w' => DoPost base g ok w (F.doN c) (F.doE c) (F.doF c) (.returned (.tuple #[.int .i64 n, .int .i64 x])) w') n x w' from
    hq.mono (fun e w' ⟨n, x, he, hp⟩ => by rw [he]; exact hp)
   refine do_mount g F c w _ hx h.read ha (fun W hB => ?_)
   have hA := h.tight.below hB
   have fin2 : ∀ {n x : Int} {F' : Fs} {Q : Ending → World → Prop}, n = F.doN c → x = F.doE c → F' = F.doF c → (∀ e w', Q e w' → DoPost base g ok w n x F' e w') → Calls Try.prog 28 #[.pointer (some ⟨g, 0, none⟩), .agg (encC c).toArray] W Q → Calls Try.prog 28 #[.pointer (some ⟨g, 0, none⟩), .agg (encC c).toArray] W fun e w' => ∃ n x, e = .returned (.tuple #[.int .i64 n, .int .i64 x]) ∧ (fun n x w' => DoPost base g ok w (F.doN c) (F.doE c) (F.doF c) (.returned (.tuple #[.int .i64 n, .int .i64 x])) w') n x w' := by
    rintro n x F' Q rfl rfl rfl hQ hc
    refine hc.mono (fun e w' hq => ?_)
    have hp := hQ e w' hq
    have he := hp.1
    rw [he] at hp
    exact ⟨_, _, he, hp⟩
   have below : ∀ {n x : Int} {e : Ending} {w' : World}, (e = .returned (.tuple #[.int .i64 n, .int .i64 x]) ∧ Below W.heap.size W w') → DoPost base g ok w n x F e w' := fun {n x e w'} hp => post_below h ⟨hp.1, below_step hB hp.2⟩
   have bad : ∀ {x : Int}, x ≠ 0 → F.mountE c.f2 = x → (Calls Try.prog 28 #[.pointer (some ⟨g, 0, none⟩), .agg (encC c).toArray] W fun e w' => e = .returned (.tuple #[.int .i64 0, .int .i64 x]) ∧ Below W.heap.size W w') → _ := fun {x} hx0 hm hc =>
    fin2 (n := 0) (x := x) (F' := F) (by unfold Fs.doN; rw [if_neg (by rw [eE, hm]; omega)]) (by rw [eE, hm]) (by unfold Fs.doF; rw [if_pos (by rw [eE, hm]; exact hx0)]) (fun e w' hp => below hp) hc
   by_cases m1 : (F.it c.f2).f0.f2 = 2
   ·by_cases m2 : (F.it c.f2).f3 = 0
    ·cases m3 : F.D.contains c.f2 with
     | true =>
      exact bad (x := 1) (by decide) (by unfold Fs.mountE; rw [if_pos m1, if_pos m2, if_pos m3]) (mount_first base g _ F c W hA ha m1 m2 m3 (by omega))
     | false =>
      by_cases m4 : 300 ≤ F.I.length
      ·exact bad (x := 9) (by decide) (by unfold Fs.mountE; rw [if_pos m1, if_pos m2, if_neg (by rw [m3]; decide), if_pos m4]) (mount_many base g _ F c W hA ha m1 m2 m3 (by omega) m4)
      ·have hz : F.mountE c.f2 = 0 := by unfold Fs.mountE; rw [if_pos m1, if_pos m2, if_neg (by rw [m3]; decide), if_neg m4]
       refine fin2 (x := 0) ?_ (by rw [eE, hz]) ?_ (fun e w' hp => post_from hB hp) (mount_ok base g _ F c W hA ha m1 m2 m3 (by omega) (by omega) (by omega))
       ·unfold Fs.doN; rw [if_pos (by rw [eE, hz]; omega)]
       ·unfold Fs.doF; rw [if_neg (by rw [eE, hz]; decide), if_neg (by omega), if_neg n4, if_neg (by omega), if_neg (by omega), if_neg (by omega), if_pos hx]
    ·exact bad (x := 1) (by decide) (by unfold Fs.mountE; rw [if_pos m1, if_neg m2]) (mount_over base g _ F c W hA ha m1 m2)
   ·exact bad (x := 3) (by decide) (by unfold Fs.mountE; rw [if_neg m1]) (mount_kind base g _ F c W hA ha m1)
  ·have eE : F.doE c = 0 := by unfold Fs.doE; rw [if_neg nb, if_neg n4, if_pos hh, if_neg (by omega), if_neg (by omega)]
   refine fin (n := 0) (x := 0) ?_ eE.symm ?_ (fun e w' hp => post_same hp) (do_dead base g ok F c w h hx ha (by omega))
   ·unfold Fs.doN; rw [if_neg (by omega)]
   ·unfold Fs.doF; rw [if_neg (by omega), if_neg (by omega), if_neg n4, if_neg (by omega), if_neg (by omega), if_neg (by omega), if_neg (by omega)]
theorem do_calls (c : Chg) (hO : F.Ok m) (hm : m ≤ 100000) (h : FsAt base g ok F w) (hs : c.f3.size ≤ 1000000) (hN : c.f7 ≤ 9223372036854775807) :
  Calls Try.prog 12 #[.pointer (some ⟨g, 0, none⟩), .agg (encC c).toArray] w (DoPost base g ok w (F.doN c) (F.doE c) (F.doF c)) := by
 have bad : c.f0 < 0 ∨ 8 < c.f0 → F.doE c = 1 ∧ F.doN c = 0 ∧ F.doF c = F := fun hb => by
  have e : F.doE c = 1 := by unfold Fs.doE; rw [if_pos hb]
  refine ⟨e, ?_, ?_⟩
  ·unfold Fs.doN; rw [if_neg (by omega)]
  ·unfold Fs.doF; rw [if_pos (by omega)]
 by_cases k0 : c.f0 < 0
 ·obtain ⟨e1, e2, e3⟩ := bad (.inl k0)
  rw [e1, e2, e3]
  exact (do_low0 g F c w h.read k0).mono (fun e w' hp => post_below h hp)
 by_cases k8 : 8 < c.f0
 ·obtain ⟨e1, e2, e3⟩ := bad (.inr k8)
  rw [e1, e2, e3]
  exact (do_high0 g F c w h.read k8).mono (fun e w' hp => post_below h hp)
 by_cases k4 : c.f0 < 4
 ·exact do_entry c hO hm h hs hN (by omega) k4
 ·exact do_node c hO h (by omega) (by omega)
end
end Go.Proofs.Ytlfldoghomnbkaa.QVfs
end

section
namespace Go.Proofs.Ytlfldoghomnbkaa.QVfs
open Go.RowKit Go.Proofs.YtlfldoghomnbkaaW.PrintWords Go.Proofs.YtlfldoghomnbkaaW.PrintLast Go.Proofs.YtlfldoghomnbkaaW.PrintMore
set_option linter.unusedVariables false
set_option linter.unusedSimpArgs false
theorem Fs.at_setI (F : Fs) (a i : Nat) (x : Item) (hi : i < F.I.length) : (F.setI a x).at i = if a = i then x else F.at i := by
 show (F.I.set a x).getD i zI = if a = i then x else F.I.getD i zI
 rw [List.getD_eq_getElem?_getD, List.getElem?_set, List.getD_eq_getElem?_getD]
 by_cases c : a = i
 ·subst c; rw [if_pos rfl, if_pos hi, if_pos rfl]; rfl
 ·rw [if_neg c, if_neg c]
theorem Fs.len_setI (F : Fs) (a : Nat) (x : Item) : (F.setI a x).I.length = F.I.length := List.length_set
theorem Fs.Ok.more {F : Fs} {m m' : Nat} (h : F.Ok m) (hm : m ≤ m') : F.Ok m' := ⟨h.I, h.D, h.C, h.dev, fun i hi => Nat.le_trans (h.ent i hi) hm⟩
theorem Fs.Ok.setI {F : Fs} {m m' : Nat} (h : F.Ok m) (hm : m ≤ m') (a : Nat) (x : Item) (hx : a < F.I.length → x.f0.f0 = (F.at a).f0.f0) (hl : x.f1.length ≤ m') : (F.setI a x).Ok m' where
 I := by rw [Fs.len_setI]; exact h.I
 D := by rw [Fs.len_setI]; exact h.D
 C := h.C
 dev := fun i hi => by
  rw [Fs.len_setI] at hi
  rw [Fs.at_setI F a i x hi]
  by_cases c : a = i
  ·subst c; rw [if_pos rfl, hx hi]; exact h.dev a hi
  ·rw [if_neg c]; exact h.dev i hi
 ent := fun i hi => by
  rw [Fs.len_setI] at hi
  rw [Fs.at_setI F a i x hi]
  by_cases c : a = i
  ·rw [if_pos c]; exact hl
  ·rw [if_neg c]; exact Nat.le_trans (h.ent i hi) hm
theorem Fs.put_setI (F : Fs) (a : Nat) (name : ByteArray) (id : Nat) : ∃ b, F.put a name id = (F.setI a ⟨(F.at a).f0, (F.at a).f1 ++ [⟨name, id⟩], (F.at a).f2, (F.at a).f3, (F.at a).f4⟩).setI b (Item.linked ((F.setI a ⟨(F.at a).f0, (F.at a).f1 ++ [⟨name, id⟩], (F.at a).f2, (F.at a).f3, (F.at a).f4⟩).at b)) := by
 unfold Fs.put
 simp only
 split
 ·exact ⟨a, rfl⟩
 ·exact ⟨id, rfl⟩
theorem Fs.at_len (F : Fs) (a : Nat) (h : ¬ a < F.I.length) : F.at a = zI := by
 unfold Fs.at
 rw [List.getD_eq_getElem?_getD, List.getElem?_eq_none (by omega)]; rfl
theorem Fs.Ok.at_ent {F : Fs} {m : Nat} (h : F.Ok m) (a : Nat) : (F.at a).f1.length ≤ m := by
 by_cases c : a < F.I.length
 ·exact h.ent a c
 ·rw [Fs.at_len F a c]; exact Nat.zero_le _
theorem Fs.Ok.put {F : Fs} {m : Nat} (h : F.Ok m) (a : Nat) (name : ByteArray) (id : Nat) : (F.put a name id).Ok (m + 1) := by
 obtain ⟨b, e⟩ := F.put_setI a name id
 rw [e]
 have h1 : (F.setI a ⟨(F.at a).f0, (F.at a).f1 ++ [⟨name, id⟩], (F.at a).f2, (F.at a).f3, (F.at a).f4⟩).Ok (m + 1) := h.setI (by omega) a _ (fun _ => rfl) (by
  show ((F.at a).f1 ++ [_]).length ≤ m + 1
  rw [List.length_append]
  have := h.at_ent a
  simp only [List.length_cons, List.length_nil]; omega)
 exact h1.setI (Nat.le_refl _) b _ (fun _ => rfl) (h1.at_ent b)
theorem Fs.make_last (F : Fs) (n : Node) (up : Int) : ((F.make n up).at F.I.length).f0.f0 = n.f0 ∧ ((F.make n up).at F.I.length).f1 = [] := by
 unfold Fs.at Fs.make
 simp only
 rw [List.getD_eq_getElem?_getD, List.getElem?_append_right (Nat.le_refl _), Nat.sub_self]
 exact ⟨rfl, rfl⟩
theorem Fs.make_len (F : Fs) (n : Node) (up : Int) : (F.make n up).I.length = F.I.length + 1 := by
 show (F.I ++ [_]).length = _
 rw [List.length_append]; rfl
theorem Fs.make_C (F : Fs) (n : Node) (up : Int) : (F.make n up).C.length = F.C.length := List.length_set
theorem Fs.Ok.make {F : Fs} {m : Nat} (h : F.Ok m) (n : Node) (up : Int) (hl : F.I.length < 300) (hd : 1 ≤ n.f0 ∧ n.f0 ≤ F.C.length) : (F.make n up).Ok m where
 I := by rw [Fs.make_len]; omega
 D := by rw [Fs.make_len]; exact Nat.le_succ_of_le h.D
 C := (F.make_C n up).trans h.C
 dev := fun i hi => by
  rw [Fs.make_len] at hi
  rw [Fs.make_C]
  by_cases c : i = F.I.length
  ·subst c; rw [(Fs.make_last F n up).1]; exact hd
  ·rw [Fs.make_at F n up i (by omega)]; exact h.dev i (by omega)
 ent := fun i hi => by
  rw [Fs.make_len] at hi
  by_cases c : i = F.I.length
  ·subst c; rw [(Fs.make_last F n up).2]; exact Nat.zero_le _
  ·rw [Fs.make_at F n up i (by omega)]; exact h.ent i (by omega)
theorem Fs.Ok.device {F : Fs} {m : Nat} (h : F.Ok m) (mode up : Int) (hl : F.I.length < 300) : (F.device mode up).Ok m := by
 have hb : ∀ i, (F.device mode up).at i = ((⟨F.I, F.D, F.C ++ [0]⟩ : Fs).make (dirN ((F.C.length : Int) + 1) mode) up).at i := fun i => rfl
 have hlen : (F.device mode up).I.length = F.I.length + 1 := Fs.make_len ⟨F.I, F.D, F.C ++ [0]⟩ _ up
 have hC : (F.device mode up).C.length = F.C.length + 1 := by
  have := Fs.make_C ⟨F.I, F.D, F.C ++ [0]⟩ (dirN ((F.C.length : Int) + 1) mode) up
  rw [show (F.device mode up).C = ((⟨F.I, F.D, F.C ++ [0]⟩ : Fs).make (dirN ((F.C.length : Int) + 1) mode) up).C from rfl, this]
  show (F.C ++ [0]).length = _
  rw [List.length_append]; rfl
 have hD : (F.device mode up).D.length = F.D.length + 1 := by
  show (F.D ++ [_]).length = _
  rw [List.length_append]; rfl
 have hO : ∀ i, i < F.I.length → (F.device mode up).at i = F.at i := fun i hi => (hb i).trans (Fs.make_at ⟨F.I, F.D, F.C ++ [0]⟩ _ up i hi)
 have hL := Fs.make_last ⟨F.I, F.D, F.C ++ [0]⟩ (dirN ((F.C.length : Int) + 1) mode) up
 have hi' := h.I
 have hd' := h.D
 have hc' := h.C
 refine ⟨by omega, by omega, by omega, fun i hi => ?_, fun i hi => ?_⟩
 ·rw [hlen] at hi
  rw [hC]
  by_cases c : i = F.I.length
  ·subst c
   rw [hb, hL.1]
   show 1 ≤ (F.C.length : Int) + 1 ∧ (F.C.length : Int) + 1 ≤ ((F.C.length + 1 : Nat) : Int)
   omega
  ·rw [hO i (by omega)]
   have := h.dev i (by omega)
   omega
 ·rw [hlen] at hi
  by_cases c : i = F.I.length
  ·subst c
   rw [hb, hL.2]; exact Nat.zero_le _
  ·rw [hO i (by omega)]; exact h.ent i (by omega)
theorem newN_dev (dev : Int) (c : Chg) : (newN dev c).f0 = dev := by
 unfold newN
 split
 ·rfl
 ·split <;> rfl
theorem Fs.Ok.step {F : Fs} {m : Nat} (h : F.Ok m) (c : Chg) : (F.doF c).Ok (m + 1) := by
 unfold Fs.doF
 by_cases e0 : F.doE c ≠ 0
 ·rw [if_pos e0]; exact h.more (by omega)
 rw [if_neg e0]
 replace e0 : F.doE c = 0 := by omega
 by_cases c2 : c.f0 = 2
 ·rw [if_pos c2]; exact h.put _ _ _
 rw [if_neg c2]
 unfold Fs.doE at e0
 by_cases nb : c.f0 < 0 ∨ 8 < c.f0
 ·rw [if_pos nb] at e0; omega
 rw [if_neg nb] at e0
 by_cases c4 : c.f0 < 4
 ·rw [if_pos c4]
  rw [if_pos c4] at e0
  by_cases hw : F.wrongE c = 0
  ·rw [if_pos hw] at e0
   have hl : F.I.length < 300 := by
    rcases Nat.lt_or_ge F.I.length 300 with g | g
    ·exact g
    ·rw [if_pos ⟨c2, g⟩] at e0; omega
   have ha := Fs.wrong_at hw
   refine Fs.Ok.put (h.make _ _ hl ?_) _ _ _
   rw [newN_dev, Fs.it_nat F ha.1]
   exact h.dev _ (by omega)
  ·rw [if_neg hw] at e0; exact absurd e0 hw
 rw [if_neg c4]
 rw [if_neg c4] at e0
 have keep : ∀ n : Node, n.f0 = (F.at c.f2.toNat).f0.f0 → (F.setI c.f2.toNat (Item.node (F.at c.f2.toNat) n)).Ok (m + 1) := fun n hn =>
  h.setI (by omega) _ _ (fun _ => hn) (Nat.le_trans (h.at_ent _) (by omega))
 by_cases k4 : c.f0 = 4
 ·rw [if_pos k4]; exact keep _ rfl
 rw [if_neg k4]
 by_cases k5 : c.f0 = 5
 ·rw [if_pos k5]; exact keep _ rfl
 rw [if_neg k5]
 by_cases k6 : c.f0 = 6
 ·rw [if_pos k6]; exact keep _ rfl
 rw [if_neg k6]
 by_cases k7 : c.f0 = 7
 ·rw [if_pos k7]
  have hl : F.I.length < 300 := by
   by_cases hh : F.has c.f2 = true
   ·rw [if_pos hh, if_pos k7] at e0
    unfold Fs.mountE at e0
    rcases Nat.lt_or_ge F.I.length 300 with g | g
    ·exact g
    ·exfalso
     revert e0
     split
     ·split
      ·split
       ·decide
       ·decide
      ·decide
     ·decide
   ·rw [if_neg hh] at e0; omega
  have hd := h.device c.f5 (F.it c.f2).f2 hl
  exact hd.setI (by omega) _ _ (fun _ => rfl) (Nat.le_trans (hd.at_ent _) (by omega))
 rw [if_neg k7]
 exact h.setI (by omega) _ _ (fun _ => rfl) (Nat.le_trans (h.at_ent _) (by omega))
theorem Fs.new_ok : Fs.new.Ok 0 := by
 refine ⟨by decide, by decide, rfl, fun i hi => ?_, fun i hi => ?_⟩
 ·obtain rfl : i = 0 := by have : Fs.new.I.length = 1 := rfl; omega
  exact ⟨by decide, by decide⟩
 ·obtain rfl : i = 0 := by have : Fs.new.I.length = 1 := rfl; omega
  exact Nat.le_refl 0
end Go.Proofs.Ytlfldoghomnbkaa.QVfs
end
