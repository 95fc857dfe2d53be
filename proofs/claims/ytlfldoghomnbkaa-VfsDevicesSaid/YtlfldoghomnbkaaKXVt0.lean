import Derived.Test.YtlfldoghomnbkaaKXVs11
-- Texts of this seat, what the claim does not reach struck out by a program.
namespace Go.Proofs.Ytlfldoghomnbkaa.QVfs
open Go.RowKit Go.Proofs.YtlfldoghomnbkaaW.PrintWords Go.Proofs.YtlfldoghomnbkaaW.PrintLast Go.Proofs.YtlfldoghomnbkaaW.PrintMore
set_option linter.unusedVariables false
set_option linter.unusedSimpArgs false
def fewP (x : Chg) : Bool := decide ((x.f3.size : Int) ≤ 300) && decide ((x.f4.size : Int) ≤ 5000)
def fewB (l : List Chg) (n : Int) : Bool := (l.take 400).all fewP && decide ((l.length : Int) ≤ n)
theorem few_l (l : List Chg) (n : Int) : ∀ m i k : Nat, (l.take 400).length - i ≤ m → i ≤ (l.take 400).length → 2 * m + 2 ≤ k →
  r6Few.l0 k l n (i : Int) = some (((l.take 400).drop i).all fewP && decide ((l.length : Int) ≤ n)) := by
 have hlen : (l.take 400).length = min 400 l.length := List.length_take
 have hend : ∀ k, 2 ≤ k → r6Few.l0 k l n (((l.take 400).length : Nat) : Int) = some (decide ((l.length : Int) ≤ n)) := by
  intro k hk
  obtain ⟨k, rfl⟩ : ∃ j, k = j + 2 := ⟨k - 2, by omega⟩
  by_cases g : l.length ≤ 400
  ·rw [r6Few.l0, if_neg (by omega), r6Few.j1, if_neg (by decide)]
  ·rw [r6Few.l0, if_pos (by omega), show (decide ((((l.take 400).length : Nat) : Int) < 400)) = false from y3_ (by omega), r6Few.j1, if_neg (by decide)]
 intro m
 induction m with
 | zero =>
  intro i k h1 h2 h3
  obtain rfl : i = (l.take 400).length := by omega
  rw [hend k (by omega), List.drop_length]; rfl
 | succ m ih =>
  intro i k h1 h2 h3
  by_cases g : i = (l.take 400).length
  ·subst g
   rw [hend k (by omega), List.drop_length]; rfl
  ·obtain ⟨k, rfl⟩ : ∃ j, k = j + 2 := ⟨k - 2, by omega⟩
   have hi : i < (l.take 400).length := by omega
   have hil : i < l.length := by omega
   have hx : rd_T33 l (i : Int) = (l.take 400)[i] := by unfold rd_T33; simp [hil]
   rw [r6Few.l0, if_pos (by omega), show decide ((i : Int) < 400) = true from y4_ (by omega), r6Few.j1, if_pos rfl, if_pos (by omega), if_pos (by omega), hx, List.drop_eq_getElem_cons hi, List.all_cons]
   have hu : fewP ((l.take 400)[i]) = (decide ((((l.take 400)[i]).f3.size : Int) ≤ 300) && decide ((((l.take 400)[i]).f4.size : Int) ≤ 5000)) := rfl
   by_cases g3 : (((l.take 400)[i]).f3.size : Int) > 300
   ·rw [if_pos g3, hu, y3_ (by omega)]; rfl
   ·rw [if_neg g3]
    by_cases g4 : (((l.take 400)[i]).f4.size : Int) > 5000
    ·rw [if_pos g4, hu, y3_ (show ¬ ((((l.take 400)[i]).f4.size : Int) ≤ 5000) by omega), Bool.and_false]; rfl
    ·rw [if_neg g4, wrapR (by omega), ih (i + 1) k (by omega) (by omega) (by omega), hu, y4_ (show ((((l.take 400)[i]).f3.size : Int) ≤ 300) by omega), y4_ (show ((((l.take 400)[i]).f4.size : Int) ≤ 5000) by omega)]; rfl
theorem few_calls (A : Option Addr) (c : Nat) (l : List Chg) (n : Int) (w : World) (hC : Kd.C k33 w A l.length l) (hc : l.length ≤ c) :
  Calls Try.prog 15 #[.slice A l.length c, .int .i64 n] w fun e w' => e = .returned (.bool (fewB l n)) ∧ Below w.heap.size w w' := by
 refine (r6Few.calls 1002 A c l n _ w hC hc (few_l l n 400 0 1002 (by rw [List.length_take]; omega) (Nat.zero_le _) (by omega))).mono ?_
 rintro e w' ⟨he, hd⟩
 exact ⟨he, hd.below⟩
theorem few_small {l : List Chg} {n : Int} (h : fewB l n = true) (hn : n ≤ 400) (h7 : ∀ x ∈ l, x.f7 ≤ 9223372036854775807) : (∀ x ∈ l, Small x) ∧ (l.length : Int) ≤ n := by
 unfold fewB at h
 rw [Bool.and_eq_true, decide_eq_true_eq] at h
 obtain ⟨h1, h2⟩ := h
 rw [List.take_of_length_le (by omega), List.all_eq_true] at h1
 refine ⟨fun x hx => ?_, h2⟩
 have := h1 x hx
 unfold fewP at this
 rw [Bool.and_eq_true, decide_eq_true_eq, decide_eq_true_eq] at this
 exact ⟨by omega, by omega, h7 x hx⟩
def Fs.dev (F : Fs) (i : Nat) : Int := (F.at i).f0.f0
def Fs.ino (F : Fs) (i : Nat) : Int := (F.at i).f0.f1
def cntF (f : Nat → Int) (d : Int) : Nat → Nat
 | 0 => 0
 | n + 1 => cntF f d n + if f n = d then 1 else 0
theorem cntF_le (f : Nat → Int) (d : Int) : ∀ n, cntF f d n ≤ n
 | 0 => y2_ _
 | n + 1 => by
  have := cntF_le f d n
  unfold cntF
  split <;> omega
theorem cntF_mono (f : Nat → Int) (d : Int) {a b : Nat} (h : a ≤ b) : cntF f d a ≤ cntF f d b := by
 induction b with
 | zero =>
  obtain rfl : a = 0 := by omega
  exact y2_ _
 | succ b ih =>
  by_cases e : a = b + 1
  ·rw [e]; exact y2_ _
  ·exact Nat.le_trans (ih (by omega)) (Nat.le_add_right _ _)
theorem cntF_congr {f g : Nat → Int} (d : Int) : ∀ n, (∀ j, j < n → f j = g j) → cntF f d n = cntF g d n
 | 0, _ => rfl
 | n + 1, h => by
  unfold cntF
  rw [cntF_congr d n (fun j hj => h j (by omega)), h n (by omega)]
theorem cntF_none (f : Nat → Int) (d : Int) : ∀ n, (∀ j, j < n → f j ≠ d) → cntF f d n = 0
 | 0, _ => rfl
 | n + 1, h => by
  unfold cntF
  rw [cntF_none f d n (fun j hj => h j (by omega)), if_neg (h n (by omega))]
structure Fs.Num (F : Fs) : Prop where
 pos : 0 < F.D.length
 len : F.C.length = F.D.length
 dev : ∀ i, i < F.I.length → 1 ≤ F.dev i ∧ F.dev i ≤ F.D.length
 ino : ∀ i, i < F.I.length → F.ino i = cntF F.dev (F.dev i) (i + 1)
 cnt : ∀ d, d < F.D.length → F.C.getD d 0 = cntF F.dev ((d : Int) + 1) F.I.length
 first : ∀ d, d < F.D.length → ∃ a : Nat, F.D.getD d 0 = a ∧ a < F.I.length ∧ F.dev a = (d : Int) + 1 ∧ ∀ j, j < a → F.dev j ≠ (d : Int) + 1
 zero : F.D.getD 0 0 = 0
theorem Fs.Num.same {F G : Fs} (h : F.Num) (hI : G.I.length = F.I.length) (hD : G.D = F.D) (hC : G.C = F.C) (hd : ∀ i, i < F.I.length → G.dev i = F.dev i ∧ G.ino i = F.ino i) : G.Num where
 pos := by rw [hD]; exact h.pos
 len := by rw [hD, hC]; exact h.len
 dev := fun i hi => by rw [hI] at hi; rw [(hd i hi).1, hD]; exact h.dev i hi
 ino := fun i hi => by
  rw [hI] at hi
  rw [(hd i hi).2, (hd i hi).1, h.ino i hi, cntF_congr (f := G.dev) (g := F.dev) _ _ (fun j hj => (hd j (by omega)).1)]
 cnt := fun d hd' => by
  rw [hD] at hd'
  rw [hC, h.cnt d hd', hI, cntF_congr (f := G.dev) (g := F.dev) _ _ (fun j hj => (hd j hj).1)]
 first := fun d hd' => by
  rw [hD] at hd'
  obtain ⟨a, h1, h2, h3, h4⟩ := h.first d hd'
  exact ⟨a, by rw [hD]; exact h1, by rw [hI]; exact h2, by rw [(hd a h2).1]; exact h3, fun j hj => by rw [(hd j (by omega)).1]; exact h4 j hj⟩
 zero := by rw [hD]; exact h.zero
theorem Fs.Num.setI {F : Fs} (h : F.Num) (a : Nat) (x : Item) (hx : a < F.I.length → x.f0.f0 = (F.at a).f0.f0 ∧ x.f0.f1 = (F.at a).f0.f1) : (F.setI a x).Num :=
 h.same (Fs.len_setI F a x) rfl rfl (fun i hi => by
  unfold Fs.dev Fs.ino
  rw [Fs.at_setI F a i x hi]
  by_cases c : a = i
  ·subst c; rw [if_pos rfl]; exact hx hi
  ·rw [if_neg c]; exact ⟨rfl, rfl⟩)
theorem Fs.Num.put {F : Fs} (h : F.Num) (a : Nat) (name : ByteArray) (id : Nat) : (F.put a name id).Num := by
 obtain ⟨b, e⟩ := F.put_setI a name id
 rw [e]
 exact (h.setI a ⟨(F.at a).f0, (F.at a).f1 ++ [⟨name, id⟩], (F.at a).f2, (F.at a).f3, (F.at a).f4⟩ (fun _ => ⟨rfl, rfl⟩)).setI b (Item.linked ((F.setI a ⟨(F.at a).f0, (F.at a).f1 ++ [⟨name, id⟩], (F.at a).f2, (F.at a).f3, (F.at a).f4⟩).at b)) (fun _ => ⟨rfl, rfl⟩)
theorem Fs.make_ino (F : Fs) (n : Node) (up : Int) : ((F.make n up).at F.I.length).f0.f1 = wrap64 (F.C.getD (n.f0 - 1).toNat 0 + 1) := by
 unfold Fs.at Fs.make
 simp only
 rw [List.getD_eq_getElem?_getD, List.getElem?_append_right (y2_ _), Nat.sub_self]
 rfl
theorem wrapN {n : Nat} (h : n ≤ 100000) : wrap64 ((n : Int) + 1) = ((n + 1 : Nat) : Int) := by unfold wrap64; omega
theorem Fs.Num.make {F : Fs} (h : F.Num) (n : Node) (up : Int) (hl : F.I.length < 300) (hd : 1 ≤ n.f0 ∧ n.f0 ≤ F.D.length) : (F.make n up).Num := by
 have hlen := Fs.make_len F n up
 have hO : ∀ i, i < F.I.length → (F.make n up).dev i = F.dev i ∧ (F.make n up).ino i = F.ino i := fun i hi => by
  unfold Fs.dev Fs.ino; rw [Fs.make_at F n up i hi]; exact ⟨rfl, rfl⟩
 have hN : (F.make n up).dev F.I.length = n.f0 := (Fs.make_last F n up).1
 obtain ⟨d0, hd0⟩ : ∃ d0 : Nat, n.f0 = (d0 : Int) + 1 := ⟨(n.f0 - 1).toNat, by omega⟩
 have hd0l : d0 < F.D.length := by omega
 have hcn := h.cnt d0 hd0l
 have hcl := cntF_le F.dev ((d0 : Int) + 1) F.I.length
 have hto : (n.f0 - 1).toNat = d0 := by omega
 have hcong : ∀ d m, m ≤ F.I.length → cntF (F.make n up).dev d m = cntF F.dev d m := fun d m hm => cntF_congr d m (fun j hj => (hO j (by omega)).1)
 refine ⟨h.pos, (F.make_C n up).trans h.len, fun i hi => ?_, fun i hi => ?_, fun d hd' => ?_, fun d hd' => ?_, h.zero⟩
 ·rw [hlen] at hi
  by_cases c : i = F.I.length
  ·subst c; rw [hN]; exact hd
  ·rw [(hO i (by omega)).1]; exact h.dev i (by omega)
 ·rw [hlen] at hi
  by_cases c : i = F.I.length
  ·subst c
   rw [hN]
   show ((F.make n up).at F.I.length).f0.f1 = _
   rw [Fs.make_ino, hto, hcn, wrapN (by omega), cntF, hcong _ _ (y2_ _), hN, if_pos rfl, hd0]
  ·rw [(hO i (by omega)).2, (hO i (by omega)).1, h.ino i (by omega), hcong _ _ (by omega)]
 ·show (F.C.set _ _).getD d 0 = _
  rw [hlen, cntF, hcong _ _ (y2_ _), hN, hto]
  have hdl : d < F.C.length := by rw [h.len]; exact hd'
  rw [List.getD_eq_getElem?_getD, List.getElem?_set]
  by_cases c : d0 = d
  ·subst c
   rw [if_pos rfl, if_pos hdl, hd0, if_pos rfl]
   show wrap64 (F.C.getD d0 0 + 1) = _
   rw [hcn, wrapN (by omega)]
  ·rw [if_neg c, if_neg (by omega), ← List.getD_eq_getElem?_getD, h.cnt d hd']; rfl
 ·obtain ⟨a, h1, h2, h3, h4⟩ := h.first d hd'
  exact ⟨a, h1, by rw [hlen]; omega, by rw [(hO a h2).1]; exact h3, fun j hj => by rw [(hO j (by omega)).1]; exact h4 j hj⟩
theorem Fs.Num.device {F : Fs} (h : F.Num) (mode up : Int) (hl : F.I.length < 300) : (F.device mode up).Num := by
 have hlen : (F.device mode up).I.length = F.I.length + 1 := Fs.make_len ⟨F.I, F.D, F.C ++ [0]⟩ _ up
 have hO : ∀ i, i < F.I.length → (F.device mode up).dev i = F.dev i ∧ (F.device mode up).ino i = F.ino i := fun i hi => by
  have e : (F.device mode up).at i = F.at i := Fs.make_at ⟨F.I, F.D, F.C ++ [0]⟩ _ up i hi
  unfold Fs.dev Fs.ino; rw [e]; exact ⟨rfl, rfl⟩
 have hN : (F.device mode up).dev F.I.length = (F.C.length : Int) + 1 := (Fs.make_last ⟨F.I, F.D, F.C ++ [0]⟩ (dirN ((F.C.length : Int) + 1) mode) up).1
 have hNi : (F.device mode up).ino F.I.length = 1 := by
  show ((Fs.make ⟨F.I, F.D, F.C ++ [0]⟩ (dirN ((F.C.length : Int) + 1) mode) up).at F.I.length).f0.f1 = 1
  rw [Fs.make_ino ⟨F.I, F.D, F.C ++ [0]⟩]
  show wrap64 ((F.C ++ [0]).getD ((F.C.length : Int) + 1 - 1).toNat 0 + 1) = 1
  rw [show ((F.C.length : Int) + 1 - 1).toNat = F.C.length by omega, List.getD_eq_getElem?_getD, List.getElem?_append_right (y2_ _), Nat.sub_self]
  simp [wrap64]
 have hDl : (F.device mode up).D.length = F.D.length + 1 := by
  show (F.D ++ [_]).length = _
  rw [List.length_append]; rfl
 have hcong : ∀ d m, m ≤ F.I.length → cntF (F.device mode up).dev d m = cntF F.dev d m := fun d m hm => cntF_congr d m (fun j hj => (hO j (by omega)).1)
 have hnew : ∀ j, j < F.I.length → F.dev j ≠ (F.C.length : Int) + 1 := fun j hj => by have := (h.dev j hj).2; have := h.len; omega
 have hC : ∀ d, (F.device mode up).C.getD d 0 = if d = F.C.length then 1 else F.C.getD d 0 := fun d => by
  show ((F.C ++ [0]).set ((F.C.length : Int) + 1 - 1).toNat (wrap64 ((F.C ++ [0]).getD ((F.C.length : Int) + 1 - 1).toNat 0 + 1))).getD d 0 = _
  rw [show ((F.C.length : Int) + 1 - 1).toNat = F.C.length by omega, List.getD_eq_getElem?_getD, List.getElem?_set]
  by_cases c : F.C.length = d
  ·subst c
   rw [if_pos rfl, if_pos rfl, if_pos (by rw [List.length_append]; simp)]
   show wrap64 ((F.C ++ [0]).getD F.C.length 0 + 1) = 1
   rw [List.getD_eq_getElem?_getD, List.getElem?_append_right (y2_ _), Nat.sub_self]; simp [wrap64]
  ·rw [if_neg c, if_neg (fun e => c e.symm)]
   rcases Nat.lt_or_ge d F.C.length with g | g
   ·rw [List.getElem?_append_left g, ← List.getD_eq_getElem?_getD]
   ·rw [List.getElem?_append_right g, List.getD_eq_getElem?_getD, List.getElem?_eq_none (l := F.C) g]
    rw [List.getElem?_eq_none (by simp; omega)]
 refine ⟨by omega, ?_, fun i hi => ?_, fun i hi => ?_, fun d hd' => ?_, fun d hd' => ?_, ?_⟩
 ·rw [hDl]
  show ((F.C ++ [0]).set _ _).length = _
  rw [List.length_set, List.length_append, h.len]; rfl
 ·rw [hlen] at hi
  rw [hDl]
  by_cases c : i = F.I.length
  ·subst c; rw [hN, h.len]; omega
  ·rw [(hO i (by omega)).1]; have := h.dev i (by omega); omega
 ·rw [hlen] at hi
  by_cases c : i = F.I.length
  ·subst c
   rw [hNi, hN, cntF, hN, if_pos rfl, hcong _ _ (y2_ _), cntF_none F.dev _ _ hnew]; rfl
  ·rw [(hO i (by omega)).2, (hO i (by omega)).1, h.ino i (by omega), hcong _ _ (by omega)]
 ·rw [hDl] at hd'
  rw [hC, hlen, cntF, hcong _ _ (y2_ _), hN]
  by_cases c : d = F.C.length
  ·rw [if_pos c, c, if_pos rfl, cntF_none F.dev _ _ hnew]; rfl
  ·rw [if_neg c, if_neg (by omega), h.cnt d (by have := h.len; omega)]; rfl
 ·rw [hDl] at hd'
  show ∃ a : Nat, (F.D ++ [(F.I.length : Int)]).getD d 0 = a ∧ _
  by_cases c : d = F.D.length
  ·subst c
   refine ⟨F.I.length, ?_, by omega, by rw [hN, h.len], fun j hj => ?_⟩
   ·rw [List.getD_eq_getElem?_getD, List.getElem?_append_right (y2_ _), Nat.sub_self]; rfl
   ·rw [(hO j hj).1, ← h.len]; exact hnew j hj
  ·obtain ⟨a, h1, h2, h3, h4⟩ := h.first d (by omega)
   refine ⟨a, ?_, by omega, by rw [(hO a h2).1]; exact h3, fun j hj => by rw [(hO j (by omega)).1]; exact h4 j hj⟩
   rw [List.getD_eq_getElem?_getD, List.getElem?_append_left (by omega), ← List.getD_eq_getElem?_getD]; exact h1
 ·show (F.D ++ [(F.I.length : Int)]).getD 0 0 = 0
  rw [List.getD_eq_getElem?_getD, List.getElem?_append_left h.pos, ← List.getD_eq_getElem?_getD]; exact h.zero
theorem Fs.Num.step {F : Fs} {m : Nat} (hO : F.Ok m) (h : F.Num) (c : Chg) : (F.doF c).Num := by
 unfold Fs.doF
 by_cases e0 : F.doE c ≠ 0
 ·rw [if_pos e0]; exact h
 rw [if_neg e0]
 replace e0 : F.doE c = 0 := by omega
 by_cases c2 : c.f0 = 2
 ·rw [if_pos c2]; exact h.put _ _ _
 rw [if_neg c2]
 unfold Fs.doE at e0
 by_cases nb : c.f0 < 0 ∨ 8 < c.f0
 ·rw [if_pos nb] at e0; omega
 rw [if_neg nb] at e0
 by_cases c4 : c.f0 < 4
 ·rw [if_pos c4]
  rw [if_pos c4] at e0
  by_cases hw : F.wrongE c = 0
  ·rw [if_pos hw] at e0
   have hl : F.I.length < 300 := by
    rcases Nat.lt_or_ge F.I.length 300 with g | g
    ·exact g
    ·rw [if_pos ⟨c2, g⟩] at e0; omega
   have ha := Fs.wrong_at hw
   refine Fs.Num.put (h.make _ _ hl ?_) _ _ _
   rw [newN_dev, Fs.it_nat F ha.1]
   exact h.dev _ (by omega)
  ·rw [if_neg hw] at e0; exact absurd e0 hw
 rw [if_neg c4]
 rw [if_neg c4] at e0
 have keep : ∀ n : Node, n.f0 = (F.at c.f2.toNat).f0.f0 → n.f1 = (F.at c.f2.toNat).f0.f1 → (F.setI c.f2.toNat (Item.node (F.at c.f2.toNat) n)).Num := fun n hn hi => h.setI _ _ (fun _ => ⟨hn, hi⟩)
 by_cases k4 : c.f0 = 4
 ·rw [if_pos k4]; exact keep _ rfl rfl
 rw [if_neg k4]
 by_cases k5 : c.f0 = 5
 ·rw [if_pos k5]; exact keep _ rfl rfl
 rw [if_neg k5]
 by_cases k6 : c.f0 = 6
 ·rw [if_pos k6]; exact keep _ rfl rfl
 rw [if_neg k6]
 by_cases k7 : c.f0 = 7
 ·rw [if_pos k7]
  have hl : F.I.length < 300 := by
   by_cases hh : F.has c.f2 = true
   ·rw [if_pos hh, if_pos k7] at e0
    unfold Fs.mountE at e0
    rcases Nat.lt_or_ge F.I.length 300 with g | g
    ·exact g
    ·exfalso
     revert e0
     split
     ·split
      ·split
       ·decide
       ·decide
      ·decide
     ·decide
   ·rw [if_neg hh] at e0; omega
  exact (h.device c.f5 (F.it c.f2).f2 hl).setI _ _ (fun _ => ⟨rfl, rfl⟩)
 rw [if_neg k7]
 exact h.setI _ _ (fun _ => ⟨rfl, rfl⟩)
theorem Fs.none_device : Fs.new.Num := by
 refine ⟨by decide, rfl, fun i hi => ?_, fun i hi => ?_, fun d hd => ?_, fun d hd => ?_, rfl⟩
 ·obtain rfl : i = 0 := by have : Fs.new.I.length = 1 := rfl; omega
  exact ⟨by decide, by decide⟩
 ·obtain rfl : i = 0 := by have : Fs.new.I.length = 1 := rfl; omega
  decide +kernel
 ·obtain rfl : d = 0 := by have : Fs.new.D.length = 1 := rfl; omega
  decide +kernel
 ·obtain rfl : d = 0 := by have : Fs.new.D.length = 1 := rfl; omega
  exact ⟨0, rfl, by decide, by decide, fun j hj => absurd hj (Nat.not_lt_zero _)⟩
theorem run_num (l : List Chg) : (Fs.run l).Num := by
 have key : ∀ n, ∀ l : List Chg, l.length = n → (Fs.run l).Num := by
  intro n
  induction n with
  | zero =>
   intro l hl
   obtain rfl := List.eq_nil_of_length_eq_zero hl
   exact Fs.none_device
  | succ n ih =>
   intro l hl
   rcases List.eq_nil_or_concat l with rfl | ⟨l', c, rfl⟩
   ·simp at hl
   ·rw [List.concat_eq_append] at hl ⊢
    have hl' : l'.length = n := by simpa using hl
    rw [Fs.run_snoc]
    exact Fs.Num.step (run_ok l').1 (ih l' hl') c
 exact key _ l rfl
end Go.Proofs.Ytlfldoghomnbkaa.QVfs
