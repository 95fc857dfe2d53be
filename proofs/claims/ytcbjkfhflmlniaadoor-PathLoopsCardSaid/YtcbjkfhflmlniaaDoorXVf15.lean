/- What a change leaves is of a size that is looked at. -/
import Derived.Test.YtcbjkfhflmlniaaDoorXVf14
namespace Go.Proofs.YtcbjkfhflmlniaaDoor.QVfs
open Go.RowKit Go.Proofs.YtcbjkfhflmlniaaDoorW.PrintWords Go.Proofs.YtcbjkfhflmlniaaDoorW.PrintLast Go.Proofs.YtcbjkfhflmlniaaDoorW.PrintMore
set_option linter.unusedVariables false
set_option linter.unusedSimpArgs false

theorem Fs.at_setI (F : Fs) (a i : Nat) (x : Item) (hi : i < F.I.length) : (F.setI a x).at i = if a = i then x else F.at i := by
  show (F.I.set a x).getD i zI = if a = i then x else F.I.getD i zI
  rw [List.getD_eq_getElem?_getD, List.getElem?_set, List.getD_eq_getElem?_getD]
  by_cases c : a = i
  · subst c; rw [if_pos rfl, if_pos hi, if_pos rfl]; rfl
  · rw [if_neg c, if_neg c]
theorem Fs.len_setI (F : Fs) (a : Nat) (x : Item) : (F.setI a x).I.length = F.I.length := List.length_set
theorem Fs.Ok.more {F : Fs} {m m' : Nat} (h : F.Ok m) (hm : m ≤ m') : F.Ok m' := ⟨h.I, h.D, h.C, h.dev, fun i hi => Nat.le_trans (h.ent i hi) hm⟩
theorem Fs.Ok.setI {F : Fs} {m m' : Nat} (h : F.Ok m) (hm : m ≤ m') (a : Nat) (x : Item) (hx : a < F.I.length → x.f0.f0 = (F.at a).f0.f0) (hl : x.f1.length ≤ m') : (F.setI a x).Ok m' where
  I := by rw [Fs.len_setI]; exact h.I
  D := by rw [Fs.len_setI]; exact h.D
  C := h.C
  dev := fun i hi => by
    rw [Fs.len_setI] at hi
    rw [Fs.at_setI F a i x hi]
    by_cases c : a = i
    · subst c; rw [if_pos rfl, hx hi]; exact h.dev a hi
    · rw [if_neg c]; exact h.dev i hi
  ent := fun i hi => by
    rw [Fs.len_setI] at hi
    rw [Fs.at_setI F a i x hi]
    by_cases c : a = i
    · rw [if_pos c]; exact hl
    · rw [if_neg c]; exact Nat.le_trans (h.ent i hi) hm
theorem Fs.put_setI (F : Fs) (a : Nat) (name : ByteArray) (id : Nat) : ∃ b, F.put a name id = (F.setI a ⟨(F.at a).f0, (F.at a).f1 ++ [⟨name, id⟩], (F.at a).f2, (F.at a).f3, (F.at a).f4⟩).setI b (Item.linked ((F.setI a ⟨(F.at a).f0, (F.at a).f1 ++ [⟨name, id⟩], (F.at a).f2, (F.at a).f3, (F.at a).f4⟩).at b)) := by
  unfold Fs.put
  simp only
  split
  · exact ⟨a, rfl⟩
  · exact ⟨id, rfl⟩
theorem Fs.at_len (F : Fs) (a : Nat) (h : ¬ a < F.I.length) : F.at a = zI := by
  unfold Fs.at
  rw [List.getD_eq_getElem?_getD, List.getElem?_eq_none (by omega)]; rfl
theorem Fs.Ok.at_ent {F : Fs} {m : Nat} (h : F.Ok m) (a : Nat) : (F.at a).f1.length ≤ m := by
  by_cases c : a < F.I.length
  · exact h.ent a c
  · rw [Fs.at_len F a c]; exact Nat.zero_le _
theorem Fs.Ok.put {F : Fs} {m : Nat} (h : F.Ok m) (a : Nat) (name : ByteArray) (id : Nat) : (F.put a name id).Ok (m + 1) := by
  obtain ⟨b, e⟩ := F.put_setI a name id
  rw [e]
  have h1 : (F.setI a ⟨(F.at a).f0, (F.at a).f1 ++ [⟨name, id⟩], (F.at a).f2, (F.at a).f3, (F.at a).f4⟩).Ok (m + 1) := h.setI (by omega) a _ (fun _ => rfl) (by
    show ((F.at a).f1 ++ [_]).length ≤ m + 1
    rw [List.length_append]
    have := h.at_ent a
    simp only [List.length_cons, List.length_nil]; omega)
  exact h1.setI (Nat.le_refl _) b _ (fun _ => rfl) (h1.at_ent b)
theorem Fs.make_last (F : Fs) (n : Node) (up : Int) : ((F.make n up).at F.I.length).f0.f0 = n.f0 ∧ ((F.make n up).at F.I.length).f1 = [] := by
  unfold Fs.at Fs.make
  simp only
  rw [List.getD_eq_getElem?_getD, List.getElem?_append_right (Nat.le_refl _), Nat.sub_self]
  exact ⟨rfl, rfl⟩
theorem Fs.make_len (F : Fs) (n : Node) (up : Int) : (F.make n up).I.length = F.I.length + 1 := by
  show (F.I ++ [_]).length = _
  rw [List.length_append]; rfl
theorem Fs.make_C (F : Fs) (n : Node) (up : Int) : (F.make n up).C.length = F.C.length := List.length_set
theorem Fs.Ok.make {F : Fs} {m : Nat} (h : F.Ok m) (n : Node) (up : Int) (hl : F.I.length < 300) (hd : 1 ≤ n.f0 ∧ n.f0 ≤ F.C.length) : (F.make n up).Ok m where
  I := by rw [Fs.make_len]; omega
  D := by rw [Fs.make_len]; exact Nat.le_succ_of_le h.D
  C := (F.make_C n up).trans h.C
  dev := fun i hi => by
    rw [Fs.make_len] at hi
    rw [Fs.make_C]
    by_cases c : i = F.I.length
    · subst c; rw [(Fs.make_last F n up).1]; exact hd
    · rw [Fs.make_at F n up i (by omega)]; exact h.dev i (by omega)
  ent := fun i hi => by
    rw [Fs.make_len] at hi
    by_cases c : i = F.I.length
    · subst c; rw [(Fs.make_last F n up).2]; exact Nat.zero_le _
    · rw [Fs.make_at F n up i (by omega)]; exact h.ent i (by omega)
theorem Fs.Ok.device {F : Fs} {m : Nat} (h : F.Ok m) (mode up : Int) (hl : F.I.length < 300) : (F.device mode up).Ok m := by
  have hb : ∀ i, (F.device mode up).at i = ((⟨F.I, F.D, F.C ++ [0]⟩ : Fs).make (dirN ((F.C.length : Int) + 1) mode) up).at i := fun i => rfl
  have hlen : (F.device mode up).I.length = F.I.length + 1 := Fs.make_len ⟨F.I, F.D, F.C ++ [0]⟩ _ up
  have hC : (F.device mode up).C.length = F.C.length + 1 := by
    have := Fs.make_C ⟨F.I, F.D, F.C ++ [0]⟩ (dirN ((F.C.length : Int) + 1) mode) up
    rw [show (F.device mode up).C = ((⟨F.I, F.D, F.C ++ [0]⟩ : Fs).make (dirN ((F.C.length : Int) + 1) mode) up).C from rfl, this]
    show (F.C ++ [0]).length = _
    rw [List.length_append]; rfl
  have hD : (F.device mode up).D.length = F.D.length + 1 := by
    show (F.D ++ [_]).length = _
    rw [List.length_append]; rfl
  have hO : ∀ i, i < F.I.length → (F.device mode up).at i = F.at i := fun i hi => (hb i).trans (Fs.make_at ⟨F.I, F.D, F.C ++ [0]⟩ _ up i hi)
  have hL := Fs.make_last ⟨F.I, F.D, F.C ++ [0]⟩ (dirN ((F.C.length : Int) + 1) mode) up
  have hi' := h.I
  have hd' := h.D
  have hc' := h.C
  refine ⟨by omega, by omega, by omega, fun i hi => ?_, fun i hi => ?_⟩
  · rw [hlen] at hi
    rw [hC]
    by_cases c : i = F.I.length
    · subst c
      rw [hb, hL.1]
      show 1 ≤ (F.C.length : Int) + 1 ∧ (F.C.length : Int) + 1 ≤ ((F.C.length + 1 : Nat) : Int)
      omega
    · rw [hO i (by omega)]
      have := h.dev i (by omega)
      omega
  · rw [hlen] at hi
    by_cases c : i = F.I.length
    · subst c
      rw [hb, hL.2]; exact Nat.zero_le _
    · rw [hO i (by omega)]; exact h.ent i (by omega)
theorem newN_dev (dev : Int) (c : Chg) : (newN dev c).f0 = dev := by
  unfold newN
  split
  · rfl
  · split <;> rfl
/-- A change leaves a file system of a size that is looked at. -/
theorem Fs.Ok.step {F : Fs} {m : Nat} (h : F.Ok m) (c : Chg) : (F.doF c).Ok (m + 1) := by
  unfold Fs.doF
  by_cases e0 : F.doE c ≠ 0
  · rw [if_pos e0]; exact h.more (by omega)
  rw [if_neg e0]
  replace e0 : F.doE c = 0 := by omega
  by_cases c2 : c.f0 = 2
  · rw [if_pos c2]; exact h.put _ _ _
  rw [if_neg c2]
  unfold Fs.doE at e0
  by_cases nb : c.f0 < 0 ∨ 8 < c.f0
  · rw [if_pos nb] at e0; omega
  rw [if_neg nb] at e0
  by_cases c4 : c.f0 < 4
  · rw [if_pos c4]
    rw [if_pos c4] at e0
    by_cases hw : F.wrongE c = 0
    · rw [if_pos hw] at e0
      have hl : F.I.length < 300 := by
        rcases Nat.lt_or_ge F.I.length 300 with g | g
        · exact g
        · rw [if_pos ⟨c2, g⟩] at e0; omega
      have ha := Fs.wrong_at hw
      refine Fs.Ok.put (h.make _ _ hl ?_) _ _ _
      rw [newN_dev, Fs.it_nat F ha.1]
      exact h.dev _ (by omega)
    · rw [if_neg hw] at e0; exact absurd e0 hw
  rw [if_neg c4]
  rw [if_neg c4] at e0
  have keep : ∀ n : Node, n.f0 = (F.at c.f2.toNat).f0.f0 → (F.setI c.f2.toNat (Item.node (F.at c.f2.toNat) n)).Ok (m + 1) := fun n hn =>
    h.setI (by omega) _ _ (fun _ => hn) (Nat.le_trans (h.at_ent _) (by omega))
  by_cases k4 : c.f0 = 4
  · rw [if_pos k4]; exact keep _ rfl
  rw [if_neg k4]
  by_cases k5 : c.f0 = 5
  · rw [if_pos k5]; exact keep _ rfl
  rw [if_neg k5]
  by_cases k6 : c.f0 = 6
  · rw [if_pos k6]; exact keep _ rfl
  rw [if_neg k6]
  by_cases k7 : c.f0 = 7
  · rw [if_pos k7]
    have hl : F.I.length < 300 := by
      by_cases hh : F.has c.f2 = true
      · rw [if_pos hh, if_pos k7] at e0
        unfold Fs.mountE at e0
        rcases Nat.lt_or_ge F.I.length 300 with g | g
        · exact g
        · exfalso
          revert e0
          split
          · split
            · split
              · decide
              · decide
            · decide
          · decide
      · rw [if_neg hh] at e0; omega
    have hd := h.device c.f5 (F.it c.f2).f2 hl
    exact hd.setI (by omega) _ _ (fun _ => rfl) (Nat.le_trans (hd.at_ent _) (by omega))
  rw [if_neg k7]
  exact h.setI (by omega) _ _ (fun _ => rfl) (Nat.le_trans (h.at_ent _) (by omega))
theorem Fs.new_ok : Fs.new.Ok 0 := by
  refine ⟨by decide, by decide, rfl, fun i hi => ?_, fun i hi => ?_⟩
  · obtain rfl : i = 0 := by have : Fs.new.I.length = 1 := rfl; omega
    exact ⟨by decide, by decide⟩
  · obtain rfl : i = 0 := by have : Fs.new.I.length = 1 := rfl; omega
    exact Nat.le_refl 0
end Go.Proofs.YtcbjkfhflmlniaaDoor.QVfs
