/- vfs.Do, whole. -/
import Derived.Test.YtcbjkfhflmlniaaDoorXVf13
namespace Go.Proofs.YtcbjkfhflmlniaaDoor.QVfs
open Go.RowKit Go.Proofs.YtcbjkfhflmlniaaDoorW.PrintWords Go.Proofs.YtcbjkfhflmlniaaDoorW.PrintLast Go.Proofs.YtcbjkfhflmlniaaDoorW.PrintMore
set_option linter.unusedVariables false
set_option linter.unusedSimpArgs false

/-- A file system of a size that is looked at: at most m entries in a directory. -/
structure Fs.Ok (F : Fs) (m : Nat) : Prop where
  I : F.I.length ≤ 300
  D : F.D.length ≤ F.I.length
  C : F.C.length = F.D.length
  dev : ∀ i, i < F.I.length → 1 ≤ (F.at i).f0.f0 ∧ (F.at i).f0.f0 ≤ F.C.length
  ent : ∀ i, i < F.I.length → (F.at i).f1.length ≤ m
/-- What a change answers: the error, the node; what it leaves. -/
def Fs.doE (F : Fs) (c : Chg) : Int :=
  if c.f0 < 0 ∨ 8 < c.f0 then 1
  else if c.f0 < 4 then (if F.wrongE c = 0 then (if c.f0 ≠ 2 ∧ 300 ≤ F.I.length then 9 else 0) else F.wrongE c)
  else if F.has c.f2 = true then (if c.f0 = 7 then F.mountE c.f2 else if c.f0 = 6 ∧ (c.f5 < 0 ∨ 2 < c.f5) then 1 else 0)
  else 2
def Fs.doN (F : Fs) (c : Chg) : Int := if F.doE c = 0 ∧ (c.f0 = 0 ∨ c.f0 = 1 ∨ c.f0 = 3 ∨ c.f0 = 7) then F.I.length else 0
def Fs.doF (F : Fs) (c : Chg) : Fs :=
  if F.doE c ≠ 0 then F
  else if c.f0 = 2 then F.put c.f1.toNat c.f3 c.f2.toNat
  else if c.f0 < 4 then (F.make (newN (F.it c.f1).f0.f0 c) (newUp c)).put c.f1.toNat c.f3 F.I.length
  else if c.f0 = 4 then F.setI c.f2.toNat (Item.node (F.at c.f2.toNat) (setMode (F.at c.f2.toNat).f0 c.f5))
  else if c.f0 = 5 then F.setI c.f2.toNat (Item.node (F.at c.f2.toNat) (setGid (setUid (F.at c.f2.toNat).f0 c.f5) c.f6))
  else if c.f0 = 6 then F.setI c.f2.toNat (Item.node (F.at c.f2.toNat) (setT (F.at c.f2.toNat).f0 c.f5 c.f7))
  else if c.f0 = 7 then (F.device c.f5 (F.it c.f2).f2).setI c.f2.toNat (Item.over ((F.device c.f5 (F.it c.f2).f2).at c.f2.toNat) F.I.length)
  else F.setI c.f2.toNat (Item.dies (F.at c.f2.toNat))
theorem Fs.wrong_at {F : Fs} {c : Chg} (h : F.wrongE c = 0) : 0 ≤ c.f1 ∧ c.f1 < F.I.length := (Fs.dirE_zero (Fs.placeE_zero (Fs.wrongE_zero h).1)).1
theorem Fs.it_nat (F : Fs) {t : Int} (h : 0 ≤ t) : F.it t = F.at t.toNat := by
  obtain ⟨a, rfl⟩ : ∃ a : Nat, t = a := ⟨t.toNat, by omega⟩
  rw [Fs.it_at, Int.toNat_natCast]
section
variable {base g : Nat} {ok : Nat → Prop} {F : Fs} {w : World} {m : Nat}
/-- What Do answers, in short. -/
abbrev DoPost (base g : Nat) (ok : Nat → Prop) (w : World) (n x : Int) (F' : Fs) (e : Ending) (w' : World) : Prop :=
  e = .returned (.tuple #[.int .i64 n, .int .i64 x]) ∧ FsAt base g (fun k => ok k ∨ w.heap.size ≤ k) F' w' ∧ Held w w' ok
theorem post_below (h : FsAt base g ok F w) {n x : Int} {e : Ending} {w' : World} (hp : e = .returned (.tuple #[.int .i64 n, .int .i64 x]) ∧ Below w.heap.size w w') : DoPost base g ok w n x F e w' :=
  ⟨hp.1, FsAt.weak (h.below hp.2) (fun _ hk => Or.inl hk), Held.of_below hp.2 _⟩
theorem post_same {n x : Int} {F' : Fs} {e : Ending} {w' : World} (hp : e = .returned (.tuple #[.int .i64 n, .int .i64 x]) ∧ FsAt base g ok F' w' ∧ Held w w' ok) : DoPost base g ok w n x F' e w' :=
  ⟨hp.1, FsAt.weak hp.2.1 (fun _ hk => Or.inl hk), hp.2.2⟩
/-- .. of a call that Do makes in a world behind w. -/
theorem post_from {W : World} (hB : Below w.heap.size w W) {n x : Int} {F' : Fs} {e : Ending} {w' : World}
    (hp : e = .returned (.tuple #[.int .i64 n, .int .i64 x]) ∧ FsAt base g (fun k => (ok k ∧ k < w.heap.size) ∨ W.heap.size ≤ k) F' w' ∧ Held W w' (fun k => ok k ∧ k < w.heap.size)) : DoPost base g ok w n x F' e w' := by
  refine ⟨hp.1, FsAt.weak hp.2.1 (fun k hk => ?_), (Held.of_below hB _).then_ hp.2.2 (fun k hk => Or.inl hk.1)⟩
  rcases hk with hk | hk
  · exact Or.inl hk.1
  · exact Or.inr (Nat.le_trans hB.size hk)
theorem do_entry (c : Chg) (hO : F.Ok m) (hm : m ≤ 100000) (h : FsAt base g ok F w) (hs : c.f3.size ≤ 1000000) (hN : c.f7 ≤ 9223372036854775807) (k0 : 0 ≤ c.f0) (k4 : c.f0 < 4) :
    Calls Tryd.prog 17 #[.pointer (some ⟨g, 0, none⟩), .agg (encC c).toArray] w (DoPost base g ok w (F.doN c) (F.doE c) (F.doF c)) := by
  have hI := hO.I
  have hD := hO.D
  have hC := hO.C
  suffices hh : Calls Tryd.prog 17 #[.pointer (some ⟨g, 0, none⟩), .agg (encC c).toArray] w fun e w' => ∃ n x, e = .returned (.tuple #[.int .i64 n, .int .i64 x]) ∧ (fun n x w' => DoPost base g ok w (F.doN c) (F.doE c) (F.doF c) (.returned (.tuple #[.int .i64 n, .int .i64 x])) w') n x w' from
    hh.mono (fun e w' ⟨n, x, he, hp⟩ => by rw [he]; exact hp)
  refine do_low g c w _ k0 k4 (fun W hB => ?_)
  have hA := h.tight.below hB
  have fin : ∀ {n x : Int} {F' : Fs} {Q : Ending → World → Prop}, n = F.doN c → x = F.doE c → F' = F.doF c → (∀ e w', Q e w' → DoPost base g ok w n x F' e w') → Calls Tryd.prog 32 #[.pointer (some ⟨g, 0, none⟩), .agg (encC c).toArray] W Q → Calls Tryd.prog 32 #[.pointer (some ⟨g, 0, none⟩), .agg (encC c).toArray] W fun e w' => ∃ n x, e = .returned (.tuple #[.int .i64 n, .int .i64 x]) ∧ (fun n x w' => DoPost base g ok w (F.doN c) (F.doE c) (F.doF c) (.returned (.tuple #[.int .i64 n, .int .i64 x])) w') n x w' := by
    rintro n x F' Q rfl rfl rfl hQ hc
    refine hc.mono (fun e w' hq => ?_)
    have hp := hQ e w' hq
    have he := hp.1
    rw [he] at hp
    exact ⟨_, _, he, hp⟩
  have nb : ¬ (c.f0 < 0 ∨ 8 < c.f0) := by omega
  have below : ∀ {n x : Int} {e : Ending} {w' : World}, (e = .returned (.tuple #[.int .i64 n, .int .i64 x]) ∧ Below W.heap.size W w') → DoPost base g ok w n x F e w' := fun {n x e w'} hp => post_below h ⟨hp.1, below_step hB hp.2⟩
  by_cases hw : F.wrongE c = 0
  · have ha := Fs.wrong_at hw
    have hen : (F.it c.f1).f1.length ≤ 100000 := by rw [Fs.it_nat F ha.1]; exact Nat.le_trans (hO.ent _ (by omega)) hm
    have hdev : 1 ≤ (F.it c.f1).f0.f0 ∧ (F.it c.f1).f0.f0 ≤ F.C.length := by rw [Fs.it_nat F ha.1]; exact hO.dev _ (by omega)
    by_cases c2 : c.f0 = 2
    · have eE : F.doE c = 0 := by unfold Fs.doE; rw [if_neg nb, if_pos k4, if_pos hw, if_neg (by omega)]
      refine fin (n := 0) (x := 0) (F' := F.put c.f1.toNat c.f3 c.f2.toNat) ?_ eE.symm ?_ ?_ (entry_name base g _ F c W hA hs hw c2 (by omega) hen)
      · unfold Fs.doN; rw [if_neg (by omega)]
      · unfold Fs.doF; rw [if_neg (by omega), if_pos c2]
      · exact fun e w' hp => post_from hB hp
    · by_cases cm : 300 ≤ F.I.length
      · have eE : F.doE c = 9 := by unfold Fs.doE; rw [if_neg nb, if_pos k4, if_pos hw, if_pos ⟨c2, cm⟩]
        refine fin (n := 0) (x := 9) (F' := F) ?_ eE.symm ?_ ?_ (entry_many base g _ F c W hA hs hw c2 (by omega) cm)
        · unfold Fs.doN; rw [if_neg (by omega)]
        · unfold Fs.doF; rw [if_pos (by omega)]
        · exact fun e w' hp => below hp
      · have eE : F.doE c = 0 := by unfold Fs.doE; rw [if_neg nb, if_pos k4, if_pos hw, if_neg (by omega)]
        have eN : (F.I.length : Int) = F.doN c := by unfold Fs.doN; rw [if_pos (by omega)]
        have eF : (F.make (newN (F.it c.f1).f0.f0 c) (newUp c)).put c.f1.toNat c.f3 F.I.length = F.doF c := by unfold Fs.doF; rw [if_neg (by omega), if_neg c2, if_pos k4]
        have hx : c.f0 = 0 ∨ c.f0 = 1 ∨ c.f0 = 3 := by omega
        rcases hx with hx | hx | hx
        · exact fin eN eE.symm eF (fun e w' hp => post_from hB hp) (entry_dir base g _ F c W hA hs hw hx (by omega) (by omega) hen hdev)
        · exact fin eN eE.symm eF (fun e w' hp => post_from hB hp) (entry_file base g _ F c W hA hs hw hx (by omega) (by omega) hen hdev hN)
        · exact fin eN eE.symm eF (fun e w' hp => post_from hB hp) (entry_sym base g _ F c W hA hs hw hx (by omega) (by omega) hen hdev)
  · have eE : F.doE c = F.wrongE c := by unfold Fs.doE; rw [if_neg nb, if_pos k4, if_neg hw]
    refine fin (n := 0) (x := F.wrongE c) (F' := F) ?_ eE.symm ?_ ?_ (entry_wrong base g _ F c W hA hs hw)
    · unfold Fs.doN; rw [if_neg (by rw [eE]; omega)]
    · unfold Fs.doF; rw [if_pos (by rw [eE]; exact hw)]
    · exact fun e w' hp => below hp
theorem do_node (c : Chg) (hO : F.Ok m) (h : FsAt base g ok F w) (k4 : 4 ≤ c.f0) (k8 : c.f0 ≤ 8) :
    Calls Tryd.prog 17 #[.pointer (some ⟨g, 0, none⟩), .agg (encC c).toArray] w (DoPost base g ok w (F.doN c) (F.doE c) (F.doF c)) := by
  have hI := hO.I
  have hD := hO.D
  have hC := hO.C
  have fin : ∀ {n x : Int} {F' : Fs} {Q : Ending → World → Prop}, n = F.doN c → x = F.doE c → F' = F.doF c → (∀ e w', Q e w' → DoPost base g ok w n x F' e w') → Calls Tryd.prog 17 #[.pointer (some ⟨g, 0, none⟩), .agg (encC c).toArray] w Q → Calls Tryd.prog 17 #[.pointer (some ⟨g, 0, none⟩), .agg (encC c).toArray] w (DoPost base g ok w (F.doN c) (F.doE c) (F.doF c)) := by
    rintro n x F' Q rfl rfl rfl hQ hc
    exact hc.mono hQ
  have nb : ¬ (c.f0 < 0 ∨ 8 < c.f0) := by omega
  have n4 : ¬ c.f0 < 4 := by omega
  cases hh : F.has c.f2 with
  | false =>
    have eE : F.doE c = 2 := by unfold Fs.doE; rw [if_neg nb, if_neg n4, if_neg (by rw [hh]; decide)]
    refine fin (n := 0) (x := 2) (F' := F) ?_ eE.symm ?_ (fun e w' hp => post_below h hp) (do_none g F c w h.read ⟨k4, k8⟩ hh)
    · unfold Fs.doN; rw [if_neg (by omega)]
    · unfold Fs.doF; rw [if_pos (by omega)]
  | true =>
    have ha : 0 ≤ c.f2 ∧ c.f2 < F.I.length := of_decide_eq_true hh
    have hx : c.f0 = 4 ∨ c.f0 = 5 ∨ c.f0 = 6 ∨ c.f0 = 7 ∨ c.f0 = 8 := by omega
    rcases hx with hx | hx | hx | hx | hx
    · have eE : F.doE c = 0 := by unfold Fs.doE; rw [if_neg nb, if_neg n4, if_pos hh, if_neg (by omega), if_neg (by omega)]
      refine fin (n := 0) (x := 0) ?_ eE.symm ?_ (fun e w' hp => post_same hp) (do_mode base g ok F c w h hx ha (by omega))
      · unfold Fs.doN; rw [if_neg (by omega)]
      · unfold Fs.doF; rw [if_neg (by omega), if_neg (by omega), if_neg n4, if_pos hx]
    · have eE : F.doE c = 0 := by unfold Fs.doE; rw [if_neg nb, if_neg n4, if_pos hh, if_neg (by omega), if_neg (by omega)]
      refine fin (n := 0) (x := 0) ?_ eE.symm ?_ (fun e w' hp => post_same hp) (do_owner base g ok F c w h hx ha (by omega))
      · unfold Fs.doN; rw [if_neg (by omega)]
      · unfold Fs.doF; rw [if_neg (by omega), if_neg (by omega), if_neg n4, if_neg (by omega), if_pos hx]
    · by_cases hA : c.f5 < 0 ∨ 2 < c.f5
      · have eE : F.doE c = 1 := by unfold Fs.doE; rw [if_neg nb, if_neg n4, if_pos hh, if_neg (by omega), if_pos ⟨hx, hA⟩]
        refine fin (n := 0) (x := 1) (F' := F) ?_ eE.symm ?_ (fun e w' hp => post_below h hp) (do_timeX base g ok F c w h hx ha (by omega) hA)
        · unfold Fs.doN; rw [if_neg (by omega)]
        · unfold Fs.doF; rw [if_pos (by omega)]
      · have eE : F.doE c = 0 := by unfold Fs.doE; rw [if_neg nb, if_neg n4, if_pos hh, if_neg (by omega), if_neg (by omega)]
        have eN : (0 : Int) = F.doN c := by unfold Fs.doN; rw [if_neg (by omega)]
        have eF : F.setI c.f2.toNat (Item.node (F.at c.f2.toNat) (setT (F.at c.f2.toNat).f0 c.f5 c.f7)) = F.doF c := by unfold Fs.doF; rw [if_neg (by omega), if_neg (by omega), if_neg n4, if_neg (by omega), if_neg (by omega), if_pos hx]
        have h5 : c.f5 = 0 ∨ c.f5 = 1 ∨ c.f5 = 2 := by omega
        rcases h5 with h5 | h5 | h5
        · exact fin eN eE.symm (by rw [← eF, h5]) (fun e w' hp => post_same hp) (do_time0 base g ok F c w h hx ha (by omega) h5)
        · exact fin eN eE.symm (by rw [← eF, h5]) (fun e w' hp => post_same hp) (do_time1 base g ok F c w h hx ha (by omega) h5)
        · exact fin eN eE.symm (by rw [← eF, h5]) (fun e w' hp => post_same hp) (do_time2 base g ok F c w h hx ha (by omega) h5)
    · have eE : F.doE c = F.mountE c.f2 := by unfold Fs.doE; rw [if_neg nb, if_neg n4, if_pos hh, if_pos hx]
      suffices hq : Calls Tryd.prog 17 #[.pointer (some ⟨g, 0, none⟩), .agg (encC c).toArray] w fun e w' => ∃ n x, e = .returned (.tuple #[.int .i64 n, .int .i64 x]) ∧ (fun n x w' => DoPost base g ok w (F.doN c) (F.doE c) (F.doF c) (.returned (.tuple #[.int .i64 n, .int .i64 x])) w') n x w' from
        hq.mono (fun e w' ⟨n, x, he, hp⟩ => by rw [he]; exact hp)
      refine do_mount g F c w _ hx h.read ha (fun W hB => ?_)
      have hA := h.tight.below hB
      have fin2 : ∀ {n x : Int} {F' : Fs} {Q : Ending → World → Prop}, n = F.doN c → x = F.doE c → F' = F.doF c → (∀ e w', Q e w' → DoPost base g ok w n x F' e w') → Calls Tryd.prog 33 #[.pointer (some ⟨g, 0, none⟩), .agg (encC c).toArray] W Q → Calls Tryd.prog 33 #[.pointer (some ⟨g, 0, none⟩), .agg (encC c).toArray] W fun e w' => ∃ n x, e = .returned (.tuple #[.int .i64 n, .int .i64 x]) ∧ (fun n x w' => DoPost base g ok w (F.doN c) (F.doE c) (F.doF c) (.returned (.tuple #[.int .i64 n, .int .i64 x])) w') n x w' := by
        rintro n x F' Q rfl rfl rfl hQ hc
        refine hc.mono (fun e w' hq => ?_)
        have hp := hQ e w' hq
        have he := hp.1
        rw [he] at hp
        exact ⟨_, _, he, hp⟩
      have below : ∀ {n x : Int} {e : Ending} {w' : World}, (e = .returned (.tuple #[.int .i64 n, .int .i64 x]) ∧ Below W.heap.size W w') → DoPost base g ok w n x F e w' := fun {n x e w'} hp => post_below h ⟨hp.1, below_step hB hp.2⟩
      have bad : ∀ {x : Int}, x ≠ 0 → F.mountE c.f2 = x → (Calls Tryd.prog 33 #[.pointer (some ⟨g, 0, none⟩), .agg (encC c).toArray] W fun e w' => e = .returned (.tuple #[.int .i64 0, .int .i64 x]) ∧ Below W.heap.size W w') → _ := fun {x} hx0 hm hc =>
        fin2 (n := 0) (x := x) (F' := F) (by unfold Fs.doN; rw [if_neg (by rw [eE, hm]; omega)]) (by rw [eE, hm]) (by unfold Fs.doF; rw [if_pos (by rw [eE, hm]; exact hx0)]) (fun e w' hp => below hp) hc
      by_cases m1 : (F.it c.f2).f0.f2 = 2
      · by_cases m2 : (F.it c.f2).f3 = 0
        · cases m3 : F.D.contains c.f2 with
          | true =>
            exact bad (x := 1) (by decide) (by unfold Fs.mountE; rw [if_pos m1, if_pos m2, if_pos m3]) (mount_first base g _ F c W hA ha m1 m2 m3 (by omega))
          | false =>
            by_cases m4 : 300 ≤ F.I.length
            · exact bad (x := 9) (by decide) (by unfold Fs.mountE; rw [if_pos m1, if_pos m2, if_neg (by rw [m3]; decide), if_pos m4]) (mount_many base g _ F c W hA ha m1 m2 m3 (by omega) m4)
            · have hz : F.mountE c.f2 = 0 := by unfold Fs.mountE; rw [if_pos m1, if_pos m2, if_neg (by rw [m3]; decide), if_neg m4]
              refine fin2 (x := 0) ?_ (by rw [eE, hz]) ?_ (fun e w' hp => post_from hB hp) (mount_ok base g _ F c W hA ha m1 m2 m3 (by omega) (by omega) (by omega))
              · unfold Fs.doN; rw [if_pos (by rw [eE, hz]; omega)]
              · unfold Fs.doF; rw [if_neg (by rw [eE, hz]; decide), if_neg (by omega), if_neg n4, if_neg (by omega), if_neg (by omega), if_neg (by omega), if_pos hx]
        · exact bad (x := 1) (by decide) (by unfold Fs.mountE; rw [if_pos m1, if_neg m2]) (mount_over base g _ F c W hA ha m1 m2)
      · exact bad (x := 3) (by decide) (by unfold Fs.mountE; rw [if_neg m1]) (mount_kind base g _ F c W hA ha m1)
    · have eE : F.doE c = 0 := by unfold Fs.doE; rw [if_neg nb, if_neg n4, if_pos hh, if_neg (by omega), if_neg (by omega)]
      refine fin (n := 0) (x := 0) ?_ eE.symm ?_ (fun e w' hp => post_same hp) (do_dead base g ok F c w h hx ha (by omega))
      · unfold Fs.doN; rw [if_neg (by omega)]
      · unfold Fs.doF; rw [if_neg (by omega), if_neg (by omega), if_neg n4, if_neg (by omega), if_neg (by omega), if_neg (by omega), if_neg (by omega)]
/-- vfs.Do. -/
theorem do_calls (c : Chg) (hO : F.Ok m) (hm : m ≤ 100000) (h : FsAt base g ok F w) (hs : c.f3.size ≤ 1000000) (hN : c.f7 ≤ 9223372036854775807) :
    Calls Tryd.prog 17 #[.pointer (some ⟨g, 0, none⟩), .agg (encC c).toArray] w (DoPost base g ok w (F.doN c) (F.doE c) (F.doF c)) := by
  have bad : c.f0 < 0 ∨ 8 < c.f0 → F.doE c = 1 ∧ F.doN c = 0 ∧ F.doF c = F := fun hb => by
    have e : F.doE c = 1 := by unfold Fs.doE; rw [if_pos hb]
    refine ⟨e, ?_, ?_⟩
    · unfold Fs.doN; rw [if_neg (by omega)]
    · unfold Fs.doF; rw [if_pos (by omega)]
  by_cases k0 : c.f0 < 0
  · obtain ⟨e1, e2, e3⟩ := bad (.inl k0)
    rw [e1, e2, e3]
    exact (do_low0 g F c w h.read k0).mono (fun e w' hp => post_below h hp)
  by_cases k8 : 8 < c.f0
  · obtain ⟨e1, e2, e3⟩ := bad (.inr k8)
    rw [e1, e2, e3]
    exact (do_high0 g F c w h.read k8).mono (fun e w' hp => post_below h hp)
  by_cases k4 : c.f0 < 4
  · exact do_entry c hO hm h hs hN (by omega) k4
  · exact do_node c hO h (by omega) (by omega)
end
end Go.Proofs.YtcbjkfhflmlniaaDoor.QVfs
