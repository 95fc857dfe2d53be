/- VfsMany: 300 nodes, plain. -/
import Derived.Test.YtlfldoghomnbkaaXVf10
namespace Go.Proofs.Ytlfldoghomnbkaa.QVfs
open Go.RowKit Go.Proofs.YtlfldoghomnbkaaW.PrintWords Go.Proofs.YtlfldoghomnbkaaW.PrintLast Go.Proofs.YtlfldoghomnbkaaW.PrintMore
set_option linter.unusedVariables false
set_option linter.unusedSimpArgs false

def nameN (i : Nat) : ByteArray := ⟨#[UInt8.ofNat (97 + i % 26), UInt8.ofNat (97 + i / 26)]⟩
def chgN (dirs : Bool) (i : Nat) (n : Int) : Chg := ⟨if dirs then 0 else 1, 0, 0, nameN i, ⟨#[]⟩, 420, 0, n⟩
def code (l : List UInt8) : Nat := (l.getD 1 0).toNat * 26 + (l.getD 0 0).toNat
theorem name_code : ∀ i : Fin 320, code (nameN i.1).toList = 2619 + i.1 := by decide +kernel
theorem name_ne (i j : Nat) (hi : i < 320) (hj : j < 320) (h : i ≠ j) : (nameN i).toList ≠ (nameN j).toList := by
  intro e
  have a := name_code ⟨i, hi⟩
  have b := name_code ⟨j, hj⟩
  simp only at a b
  rw [e] at a
  omega
theorem name_good : ∀ i : Fin 320, goodB (nameN i.1) = true := by decide +kernel
theorem name_more : ∀ i : Fin 320, (nameN i.1).toList ≠ [109, 111, 114, 101] := by decide +kernel
/-- What n rounds leave. -/
structure Inv (dirs : Bool) (F : Fs) (n : Nat) : Prop where
  len : F.I.length = n + 1
  lC : F.C.length = 1
  dev : (F.at 0).f0.f0 = 1
  kind : (F.at 0).f0.f2 = 2
  links : (F.at 0).f0.f8 = if dirs then (n : Int) + 2 else 2
  names : (F.at 0).f1.map (·.f0) = (List.range n).map nameN
  one : 1 ≤ n → (F.at 1).f0.f0 = 1 ∧ (F.at 1).f0.f2 = if dirs then 2 else 1
theorem Inv.zero (dirs : Bool) : Inv dirs Fs.new 0 := by
  refine ⟨rfl, rfl, rfl, rfl, ?_, rfl, fun h => by omega⟩
  cases dirs <;> rfl
theorem at_zero (F : Fs) : F.it 0 = F.at 0 := Fs.it_at F 0
theorem Inv.dirE {dirs : Bool} {F : Fs} {n : Nat} (h : Inv dirs F n) : F.dirE 0 = 0 := by
  unfold Fs.dirE Fs.has
  rw [if_pos (decide_eq_true ⟨by omega, by rw [h.len]; omega⟩), at_zero, if_pos h.kind]
theorem Inv.free {dirs : Bool} {F : Fs} {n : Nat} (h : Inv dirs F n) (s : ByteArray) (hs : ∀ j, j < n → (nameN j).toList ≠ s.toList) : (F.at 0).f1.any (namedB s) = false := by
  rw [List.any_eq_false]
  intro x hx
  have : x.f0 ∈ (F.at 0).f1.map (·.f0) := List.mem_map_of_mem hx
  rw [h.names, List.mem_map] at this
  obtain ⟨j, hj, e⟩ := this
  have := hs j (List.mem_range.1 hj)
  rw [e] at this
  unfold namedB
  simpa using this
theorem Inv.wrong {dirs : Bool} {F : Fs} {n : Nat} (h : Inv dirs F n) (i : Nat) (hi : i < 320) (hn : n ≤ i) (N : Int) (hN : 0 ≤ N) : F.wrongE (chgN dirs i N) = 0 := by
  have hp : F.placeE (chgN dirs i N) = 0 := by
    unfold Fs.placeE
    have hf := h.free (nameN i) (fun j hj => name_ne j i (by omega) hi (by omega))
    have e1 : (chgN dirs i N).f1 = 0 := rfl
    have e3 : (chgN dirs i N).f3 = nameN i := rfl
    rw [e1, e3, if_pos h.dirE, if_pos (name_good ⟨i, hi⟩), at_zero, hf]; rfl
  unfold Fs.wrongE
  rw [if_pos hp]
  unfold Fs.fitsE
  cases dirs
  · exact (if_pos rfl).trans (if_neg (by show ¬ N < 0; omega))
  · exact (if_neg (show ¬ (0 : Int) = 1 by decide)).trans ((if_neg (show ¬ (0 : Int) = 2 by decide)).trans (if_neg (show ¬ (0 : Int) = 3 by decide)))
/-- An entry more. -/
theorem Inv.step {dirs : Bool} {F : Fs} {n : Nat} (h : Inv dirs F n) (hn : n < 299) (N : Int) : Inv dirs ((F.make (newN (F.it 0).f0.f0 (chgN dirs n N)) (newUp (chgN dirs n N))).put 0 (nameN n) F.I.length) (n + 1) := by
  rw [at_zero, h.dev]
  obtain ⟨x, hx⟩ : ∃ x : Node, x = newN 1 (chgN dirs n N) := ⟨_, rfl⟩
  have x0 : x.f0 = 1 := by rw [hx]; cases dirs <;> rfl
  have x2 : x.f2 = if dirs then 2 else 1 := by rw [hx]; cases dirs <;> rfl
  have x8 : x.f8 = if dirs then 2 else 0 := by rw [hx]; cases dirs <;> rfl
  rw [← hx]
  clear hx
  obtain ⟨F1, hF⟩ : ∃ F1, F1 = F.make x (newUp (chgN dirs n N)) := ⟨_, rfl⟩
  have a0 : F1.at 0 = F.at 0 := by rw [hF]; exact Fs.make_at F _ _ 0 (by rw [h.len]; omega)
  have a1 : 1 ≤ n → F1.at 1 = F.at 1 := fun g => by rw [hF]; exact Fs.make_at F _ _ 1 (by rw [h.len]; omega)
  have l1 : F1.I.length = n + 2 := by rw [hF]; show (F.I ++ [_]).length = _; rw [List.length_append, h.len]; rfl
  have c1 : F1.C.length = 1 := by rw [hF]; show (F.C.set _ _).length = 1; rw [List.length_set, h.lC]
  have an : ∃ y : Item, F1.I[n + 1]? = some y ∧ y.f0.f0 = 1 ∧ (y.f0.f2 = if dirs then 2 else 1) := by
    refine ⟨⟨⟨x.f0, wrap64 (F.C.getD (x.f0 - 1).toNat 0 + 1), x.f2, x.f3, x.f4, x.f5, x.f6, x.f7, x.f8, x.f9, x.f10⟩, [], newUp (chgN dirs n N), 0, false⟩, ?_, x0, x2⟩
    rw [hF]; show (F.I ++ [_])[n + 1]? = _; rw [List.getElem?_append_right (by rw [h.len]; omega), h.len, Nat.sub_self]; rfl
  rw [← hF, h.len]
  clear hF
  obtain ⟨y, hy, y0, y2⟩ := an
  unfold Fs.put
  obtain ⟨J, hJ⟩ : ∃ J, J = F1.I.set 0 ⟨(F1.at 0).f0, (F1.at 0).f1 ++ [⟨nameN n, ((n + 1 : Nat) : Int)⟩], (F1.at 0).f2, (F1.at 0).f3, (F1.at 0).f4⟩ := ⟨_, rfl⟩
  have j0 : J[0]? = some ⟨(F1.at 0).f0, (F1.at 0).f1 ++ [⟨nameN n, ((n + 1 : Nat) : Int)⟩], (F1.at 0).f2, (F1.at 0).f3, (F1.at 0).f4⟩ := by rw [hJ, List.getElem?_set_self (by omega)]
  have jn : ∀ k, k ≠ 0 → J[k]? = F1.I[k]? := fun k hk => by rw [hJ, List.getElem?_set_ne (by omega)]
  have jl : J.length = n + 2 := by rw [hJ, List.length_set, l1]
  rw [a0] at j0
  rw [← hJ]
  clear hJ
  have gn : J.getD (n + 1) zI = y := by rw [List.getD_eq_getElem?_getD, jn _ (by omega), hy]; rfl
  have g0 : J.getD 0 zI = ⟨(F.at 0).f0, (F.at 0).f1 ++ [⟨nameN n, ((n + 1 : Nat) : Int)⟩], (F.at 0).f2, (F.at 0).f3, (F.at 0).f4⟩ := by rw [List.getD_eq_getElem?_getD, j0]; rfl
  have hnm : ((F.at 0).f1 ++ [⟨nameN n, ((n + 1 : Nat) : Int)⟩] : List Entry).map (·.f0) = (List.range (n + 1)).map nameN := by
    rw [List.map_append, h.names, List.range_succ, List.map_append]; rfl
  have hone : ∀ K : List Item, (K[1]? = J[1]? ∨ K[1]? = J[1]?.map Item.linked) → ((⟨K, F1.D, F1.C⟩ : Fs).at 1).f0.f0 = 1 ∧ ((⟨K, F1.D, F1.C⟩ : Fs).at 1).f0.f2 = if dirs then 2 else 1 := by
    intro K hK
    have hb : ∃ z : Item, J[1]? = some z ∧ z.f0.f0 = 1 ∧ z.f0.f2 = if dirs then 2 else 1 := by
      by_cases g : n = 0
      · subst g; exact ⟨y, (jn 1 (by omega)).trans hy, y0, y2⟩
      · refine ⟨F.at 1, ?_, h.one (by omega)⟩
        rw [jn 1 (by omega), ← a1 (by omega)]
        unfold Fs.at
        rw [List.getD_eq_getElem?_getD, List.getElem?_eq_getElem (by omega)]; rfl
    obtain ⟨z, hz, z0, z2⟩ := hb
    unfold Fs.at
    rw [List.getD_eq_getElem?_getD]
    rcases hK with hK | hK
    · rw [hK, hz]; exact ⟨z0, z2⟩
    · rw [hK, hz]; exact ⟨z0, z2⟩
  simp only
  rw [gn, g0]
  cases dirs with
  | true =>
    have y2' : y.f0.f2 = 2 := y2
    rw [if_pos y2']
    have k0 : (⟨(J.set 0 (Item.linked ⟨(F.at 0).f0, (F.at 0).f1 ++ [⟨nameN n, ((n + 1 : Nat) : Int)⟩], (F.at 0).f2, (F.at 0).f3, (F.at 0).f4⟩)), F1.D, F1.C⟩ : Fs).at 0 = Item.linked ⟨(F.at 0).f0, (F.at 0).f1 ++ [⟨nameN n, ((n + 1 : Nat) : Int)⟩], (F.at 0).f2, (F.at 0).f3, (F.at 0).f4⟩ := by
      show (J.set _ _).getD 0 zI = _
      rw [List.getD_eq_getElem?_getD, List.getElem?_set_self (by omega)]; rfl
    refine ⟨by show (J.set _ _).length = _; rw [List.length_set, jl], c1, ?_, ?_, ?_, ?_, fun _ => hone _ (.inl (List.getElem?_set_ne (by omega)))⟩
    · rw [k0]; exact h.dev
    · rw [k0]; exact h.kind
    · have := h.links
      rw [k0]
      show wrap64 ((F.at 0).f0.f8 + 1) = _
      rw [this]; simp only [if_true]; unfold wrap64; omega
    · rw [k0]; exact hnm
  | false =>
    rw [if_neg (by rw [y2]; decide)]
    have k0 : (⟨(J.set (n + 1) (Item.linked y)), F1.D, F1.C⟩ : Fs).at 0 = ⟨(F.at 0).f0, (F.at 0).f1 ++ [⟨nameN n, ((n + 1 : Nat) : Int)⟩], (F.at 0).f2, (F.at 0).f3, (F.at 0).f4⟩ := by
      show (J.set _ _).getD 0 zI = _
      rw [List.getD_eq_getElem?_getD, List.getElem?_set_ne (by omega), j0]; rfl
    refine ⟨by show (J.set _ _).length = _; rw [List.length_set, jl], c1, ?_, ?_, ?_, ?_, fun _ => hone _ ?_⟩
    · rw [k0]; exact h.dev
    · rw [k0]; exact h.kind
    · rw [k0]; exact h.links
    · rw [k0]; exact hnm
    · by_cases g : n = 0
      · subst g
        right
        rw [List.getElem?_set_self (by omega), jn 1 (by omega), hy]; rfl
      · left; exact List.getElem?_set_ne (by omega)
end Go.Proofs.Ytlfldoghomnbkaa.QVfs
