/- VfsMany: the changes it makes. -/
import Derived.Test.YtlfldoghomnbkaaMany0
namespace Go.Proofs.Ytlfldoghomnbkaa.QVfs
open Go.RowKit Go.Proofs.YtlfldoghomnbkaaW.PrintWords Go.Proofs.YtlfldoghomnbkaaW.PrintLast Go.Proofs.YtlfldoghomnbkaaW.PrintMore
set_option linter.unusedVariables false
set_option linter.unusedSimpArgs false

theorem Inv.entries {dirs : Bool} {F : Fs} {n : Nat} (h : Inv dirs F n) : (F.at 0).f1.length = n := by
  have := congrArg List.length h.names
  simpa using this
theorem many_step (base g : Nat) (dirs : Bool) (F : Fs) (i : Nat) (N : Int) (w : World) (hb : base ≤ w.heap.size) (h : FsAt base g (fun k => base ≤ k) F w) (hI : Inv dirs F (min i 299)) (hi : i < 320) (h0 : 0 ≤ N) (hN : N ≤ 4294967295) :
    Calls Try.prog 12 #[.pointer (some ⟨g, 0, none⟩), .agg (encC (chgN dirs i N)).toArray] w fun e w' => ∃ n x, e = .returned (.tuple #[.int .i64 n, .int .i64 x]) ∧ (((i < 299 ∧ n = (i : Int) + 1 ∧ x = 0) ∨ (299 ≤ i ∧ x = 9)) ∧ ∃ F', FsAt base g (fun k => base ≤ k) F' w' ∧ Inv dirs F' (min (i + 1) 299) ∧ Below base w w') := by
  refine do_low g _ w _ (show (0 : Int) ≤ (if dirs then 0 else 1) by cases dirs <;> decide) (show (if dirs then 0 else 1 : Int) < 4 by cases dirs <;> decide) (fun W hB => ?_)
  have hA := h.below hB
  have hw := hI.wrong i hi (by omega) N h0
  have hbW : base ≤ W.heap.size := Nat.le_trans hb hB.size
  have hBb : Below base w W := hB.mono hb
  have hen : (F.it 0).f1.length ≤ 100000 := by rw [at_zero, hI.entries]; omega
  have hs : (chgN dirs i N).f3.size ≤ 1000000 := by show 2 ≤ 1000000; omega
  have hdev : 1 ≤ (F.it 0).f0.f0 ∧ (F.it 0).f0.f0 ≤ F.C.length := by rw [at_zero, hI.dev, hI.lC]; omega
  by_cases g1 : i < 299
  · have hm : min i 299 = i := by omega
    have hm2 : min (i + 1) 299 = i + 1 := by omega
    rw [hm] at hI
    rw [hm2]
    have hl : F.I.length = i + 1 := hI.len
    have fin : ∀ (e : Ending) (w' : World), (e = .returned (.tuple #[.int .i64 F.I.length, .int .i64 0]) ∧ FsAt base g (fun k => base ≤ k ∨ W.heap.size ≤ k) ((F.make (newN (F.it 0).f0.f0 (chgN dirs i N)) (newUp (chgN dirs i N))).put 0 (nameN i) F.I.length) w' ∧ Held W w' (fun k => base ≤ k)) →
        ∃ n x, e = .returned (.tuple #[.int .i64 n, .int .i64 x]) ∧ (((i < 299 ∧ n = (i : Int) + 1 ∧ x = 0) ∨ (299 ≤ i ∧ x = 9)) ∧ ∃ F', FsAt base g (fun k => base ≤ k) F' w' ∧ Inv dirs F' (i + 1) ∧ Below base w w') := by
      rintro e w' ⟨rfl, h1, h2⟩
      refine ⟨_, 0, rfl, .inl ⟨g1, by rw [hl]; omega, rfl⟩, _, FsAt.weak h1 (fun k hk => hk.elim id (fun h => by omega)), hI.step g1 N, ?_⟩
      exact hBb.trans (h2.under (fun k hk => by omega) hbW)
    cases dirs with
    | true => exact (entry_dir base g _ F (chgN true i N) W hA hs hw rfl (by omega) (by rw [hI.lC]; omega) hen hdev).mono (fun e w' h => fin e w' h)
    | false => exact (entry_file base g _ F (chgN false i N) W hA hs hw rfl (by omega) (by rw [hI.lC]; omega) hen hdev (by show N ≤ _; omega)).mono (fun e w' h => fin e w' h)
  · have hm : min i 299 = 299 := by omega
    have hm2 : min (i + 1) 299 = 299 := by omega
    rw [hm] at hI
    rw [hm2]
    refine (entry_many base g _ F (chgN dirs i N) W hA hs hw (show (if dirs then 0 else 1 : Int) ≠ 2 by cases dirs <;> decide) (by rw [hI.len]; omega) (by rw [hI.len]; omega)).mono ?_
    rintro e w' ⟨rfl, h1⟩
    exact ⟨0, 9, rfl, .inr ⟨by omega, rfl⟩, F, FsAt.below hA h1, hI, hBb.trans (h1.mono hbW)⟩
def chgM : Chg := ⟨2, 0, 1, ⟨#[109, 111, 114, 101]⟩, ⟨#[]⟩, 0, 0, 0⟩
theorem chgM_place {dirs : Bool} {F : Fs} (hI : Inv dirs F 299) : F.placeE chgM = 0 := by
  have hf := hI.free ⟨#[109, 111, 114, 101]⟩ (fun j hj => by
    have := name_more ⟨j, by omega⟩
    have e : (⟨#[109, 111, 114, 101]⟩ : ByteArray).toList = [109, 111, 114, 101] := by decide +kernel
    rw [e]; exact this)
  have hg : goodB ⟨#[109, 111, 114, 101]⟩ = true := by decide +kernel
  unfold Fs.placeE
  have e1 : chgM.f1 = 0 := rfl
  have e3 : chgM.f3 = ⟨#[109, 111, 114, 101]⟩ := rfl
  rw [e1, e3, if_pos hI.dirE, if_pos hg, at_zero, hf]; rfl
theorem chgM_wrong {dirs : Bool} {F : Fs} (hI : Inv dirs F 299) : F.wrongE chgM = if dirs then 1 else 0 := by
  unfold Fs.wrongE
  rw [if_pos (chgM_place hI)]
  have ho := hI.one (by omega)
  have i1 : F.it 1 = F.at 1 := Fs.it_at F 1
  have hh : F.has 1 = true := decide_eq_true ⟨by omega, by rw [hI.len]; omega⟩
  unfold Fs.fitsE
  have e0 : chgM.f0 = 2 := rfl
  have e1 : chgM.f1 = 0 := rfl
  have e2 : chgM.f2 = 1 := rfl
  rw [e0, if_neg (by decide), if_pos rfl, e2, e1, if_pos hh, i1, at_zero, ho.1, ho.2, hI.dev]
  cases dirs <;> rfl
theorem more_calls (base g : Nat) (dirs : Bool) (F : Fs) (w : World) (hb : base ≤ w.heap.size) (h : FsAt base g (fun k => base ≤ k) F w) (hI : Inv dirs F 299) :
    Calls Try.prog 12 #[.pointer (some ⟨g, 0, none⟩), .agg (encC chgM).toArray] w fun e w' => ∃ n x, e = .returned (.tuple #[.int .i64 n, .int .i64 x]) ∧ (n = 0 ∧ x = (if dirs then 1 else 0) ∧ ∃ F' : Fs, FsAt base g (fun k => base ≤ k) F' w' ∧ F'.I.length = 300 ∧ (F'.at 0).f0.f8 = (if dirs then 301 else 2) ∧ Below base w w') := by
  refine do_low g _ w _ (by decide) (by decide) (fun W hB => ?_)
  have hA := h.below hB
  have hw := chgM_wrong hI
  have hbW : base ≤ W.heap.size := Nat.le_trans hb hB.size
  have hBb : Below base w W := hB.mono hb
  have hen : (F.it 0).f1.length ≤ 100000 := by rw [at_zero, hI.entries]; omega
  have hl := hI.links
  cases dirs with
  | true =>
    have hw' : F.wrongE chgM = 1 := hw
    refine (entry_wrong base g _ F chgM W hA (by decide) (by rw [hw']; decide)).mono ?_
    rintro e w' ⟨rfl, h1⟩
    exact ⟨0, _, rfl, rfl, hw', F, FsAt.below hA h1, hI.len, hl, hBb.trans (h1.mono hbW)⟩
  | false =>
    have hw' : F.wrongE chgM = 0 := hw
    refine (entry_name base g _ F chgM W hA (by decide) hw' rfl (by rw [hI.len]; omega) hen).mono ?_
    rintro e w' ⟨rfl, h1, h2⟩
    refine ⟨0, 0, rfl, rfl, rfl, _, FsAt.weak h1 (fun k hk => hk.elim id (fun h => by omega)), ?_, ?_, hBb.trans (h2.under (fun k hk => by omega) hbW)⟩
    · show (F.put 0 _ 1).I.length = 300
      unfold Fs.put
      simp only
      split <;> simp [hI.len]
    · show ((F.put 0 _ 1).at 0).f0.f8 = 2
      have hl' : (F.at 0).f0.f8 = 2 := hl
      have ho := (hI.one (by omega)).2
      have j1 : ∀ q : Item, (F.I.set 0 q).getD 1 zI = F.at 1 := fun q => by
        unfold Fs.at
        rw [List.getD_eq_getElem?_getD, List.getD_eq_getElem?_getD, List.getElem?_set_ne (by omega)]
      unfold Fs.put
      simp only
      rw [j1, if_neg (by rw [ho]; decide)]
      show (((F.I.set 0 _).set 1 _).getD 0 zI).f0.f8 = 2
      rw [List.getD_eq_getElem?_getD, List.getElem?_set_ne (by omega), List.getElem?_set_self (by rw [hI.len]; omega)]
      exact hl'
end Go.Proofs.Ytlfldoghomnbkaa.QVfs
