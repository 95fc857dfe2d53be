/- vfs.place: what is wrong with a new entry; slices.ContainsFunc over entries. -/
import Derived.Test.YtcbjkfhflmlniaaDoorXVf3
import Derived.Test.YtcbjkfhflmlniaaDoorXVf4
import Derived.Test.YtcbjkfhflmlniaaDoorXGood
import Derived.Deep.RegionHeld3
import Derived.Deep.RegionWith
import Derived.Shelf.Abstract
namespace Go.Proofs.YtcbjkfhflmlniaaDoor.QVfs
open Go.RowKit Go.Proofs.YtcbjkfhflmlniaaDoorW.PrintWords Go.Proofs.YtcbjkfhflmlniaaDoorW.PrintLast Go.Proofs.YtcbjkfhflmlniaaDoorW.PrintMore
set_option linter.unusedVariables false
set_option linter.unusedSimpArgs false

/-- The place of the first element that is told; -1: none is. -/
def Idx {α : Type} (p : α → Bool) (l : List α) (r : Int) : Prop :=
  (∃ k : Nat, ∃ h : k < l.length, r = (k : Int) ∧ p l[k] = true ∧ ∀ j (hj : j < k), p (l[j]'(by omega)) = false) ∨ (r = -1 ∧ ∀ x ∈ l, p x = false)
def IdxPost {α : Type} (p : α → Bool) (l : List α) (w : World) (e : Ending) (w' : World) : Prop := ∃ r, e = .returned (.int .i64 r) ∧ Idx p l r ∧ Below w.heap.size w w'
def NoneB {α : Type} (p : α → Bool) (l : List α) (k : Nat) : Prop := ∀ j (h : j < l.length), j < k → p l[j] = false
set_option maxHeartbeats 2000000 in
theorem indexFunc_ent (g : Nat) (lb : Array Value) (p : Entry → Bool) (w : World) (A : Option Addr) (c : Nat) (l : List Entry) (hC : Kd.C k90 w A l.length l) (hc : l.length ≤ c)
    (eg : ∀ args w, (callFunc g args).run Tryd.prog w = .ok (.enter g args) w)
    (hf : ∀ (x : Entry) (W : World), Below w.heap.size w W → Calls Tryd.prog g (#[.agg #[.string x.f0, .int .i64 x.f1]] ++ lb) W fun e w' => e = .returned (.bool (p x)) ∧ Below W.heap.size W w') :
    Calls Tryd.prog 58 #[.slice A l.length c, .func (.func g) #[] lb] w (IdxPost p l w) := by
  have hm := Kd.C_max hC
  have A1 := Aside0.mk hC
  have A2 := Aside0.mk hf
  clear hC hf
  go_enter Tryd.func58, Tryd.ntmps58
  go_wp2
  go_loopw [8] (fun v8 wr => ∃ k : Nat, v8 = .int .i64 k ∧ k ≤ l.length ∧ Aside0 (Below w.heap.size w wr) ∧ Aside0 (NoneB p l k)) (fun v8 _ => l.length - (intOf v8).toNat)
  case atStart => exact ⟨0, rfl, Nat.zero_le _, ⟨Below.refl _ _⟩, ⟨fun j h h' => by omega⟩⟩
  case round =>
    obtain ⟨k, rfl, hk, HB, HN⟩ := hrel
    by_cases hlt : k < l.length
    · obtain ⟨ad, he, k0, k1⟩ := at_T90 (Kd.C_below A1.out HB.out) (k : Int) (by omega) (by omega)
      have ex : rd_T90 l (k : Int) = l[k] := by unfold rd_T90; simp [hlt]
      rw [ex, Int.toNat_natCast] at k0 k1
      have hcall := A2.out l[k] wr HB.out
      have n1 : (k : Int) < (l.length : Int) := by omega
      subst he
      cases hp : p l[k]
      · rw [hp] at hcall
        go_wp2_with (go_at_fn g; refine hcall.mono ?_; rintro e w1 ⟨rfl, hb1⟩)
        go_roundw
        case rel => exact ⟨k + 1, by go_num, by omega, ⟨below_step HB.out hb1⟩, ⟨fun j h h' => by
          rcases Nat.lt_or_ge j k with h2 | h2
          · exact HN.out j h h2
          · obtain rfl : j = k := by omega
            exact hp⟩⟩
        case measure => simp [intOf]; omega
      · rw [hp] at hcall
        go_wp2_with (go_at_fn g; refine hcall.mono ?_; rintro e w1 ⟨rfl, hb1⟩)
        go_ret
        exact ⟨_, rfl, .inl ⟨k, hlt, rfl, hp, fun j hj => HN.out j (by omega) hj⟩, below_step HB.out hb1⟩
    · go_wp2
      go_ret
      refine ⟨_, rfl, .inr ⟨rfl, fun x hx => ?_⟩, HB.out⟩
      obtain ⟨j, hj, rfl⟩ := List.getElem_of_mem hx
      exact HN.out j hj (by omega)
def AnyPost {α : Type} (p : α → Bool) (l : List α) (w : World) (e : Ending) (w' : World) : Prop := e = .returned (.bool (l.any p)) ∧ Below w.heap.size w w'
theorem Idx.any {α : Type} {p : α → Bool} {l : List α} {r : Int} (h : Idx p l r) : l.any p = decide (0 ≤ r) := by
  rcases h with ⟨k, hk, rfl, hp, _⟩ | ⟨rfl, hn⟩
  · rw [decide_eq_true (by omega), List.any_eq_true]
    exact ⟨_, List.getElem_mem hk, hp⟩
  · rw [decide_eq_false (by omega), List.any_eq_false]
    intro x hx; rw [hn x hx]; decide
set_option maxHeartbeats 2000000 in
theorem containsFunc_ent (g : Nat) (lb : Array Value) (p : Entry → Bool) (w : World) (A : Option Addr) (c : Nat) (l : List Entry) (hC : Kd.C k90 w A l.length l) (hc : l.length ≤ c)
    (eg : ∀ args w, (callFunc g args).run Tryd.prog w = .ok (.enter g args) w)
    (hf : ∀ (x : Entry) (W : World), Below w.heap.size w W → Calls Tryd.prog g (#[.agg #[.string x.f0, .int .i64 x.f1]] ++ lb) W fun e w' => e = .returned (.bool (p x)) ∧ Below W.heap.size W w') :
    Calls Tryd.prog 62 #[.slice A l.length c, .func (.func g) #[] lb] w (AnyPost p l w) := by
  have cI := indexFunc_ent g lb p w A c l hC hc eg hf
  clear hC hf eg
  go_enter Tryd.func62, Tryd.ntmps62
  go_wp2_with (go_at_call 58; refine cI.mono ?_; rintro e w' ⟨r, rfl, hi, hb⟩)
  have he := hi.any
  go_ret
  unfold AnyPost
  rw [he]
  exact ⟨rfl, hb⟩
/-- Is it an entry of this name? -/
def namedB (name : ByteArray) (x : Entry) : Bool := x.f0.toList == name.toList
set_option maxHeartbeats 1000000 in
theorem closure_calls (g : Nat) (name : ByteArray) (x : Entry) (W : World) (hc : W.cell? ⟨g, 3, none⟩ = some (.string name)) :
    Calls Tryd.prog 63 (#[.agg #[.string x.f0, .int .i64 x.f1]] ++ #[.pointer (some ⟨g, 0, none⟩)]) W fun e w' => e = .returned (.bool (namedB name x)) ∧ Below W.heap.size W w' := by
  show Calls Tryd.prog 63 #[.agg #[.string x.f0, .int .i64 x.f1], .pointer (some ⟨g, 0, none⟩)] W _
  have hlt : g < W.heap.size := World.block_lt_of_cell? W _ hc
  have hb := below_alloc (Below.refl _ W) (Obj.cells #[.string x.f0, .int .i64 x.f1] TE)
  have hc2 := pw_cell_below hb hc
  unfold namedB
  go_enter Tryd.func63, Tryd.ntmps63
  go_wp2
  go_ret
  exact ⟨rfl, hb⟩
def Fs.placeE (F : Fs) (c : Chg) : Int := if F.dirE c.f1 = 0 then (if goodB c.f3 = true then (if (F.it c.f1).f1.any (namedB c.f3) = true then 4 else 0) else 1) else F.dirE c.f1
set_option maxHeartbeats 4000000 in
set_option maxRecDepth 100000 in
theorem place_calls (g : Nat) (F : Fs) (c : Chg) (w : World) (h : FsR g F w) (hs : c.f3.size ≤ 1000000) :
    Calls Tryd.prog 46 #[.pointer (some ⟨g, 0, none⟩), .agg (encC c).toArray] w fun e w' => e = .returned (.int .i64 (F.placeE c)) ∧ Below w.heap.size w w' := by
  obtain ⟨x0, x1, x2, x3, x4, x5, x6, x7⟩ := c
  simp only at hs
  obtain ⟨W, hW⟩ : ∃ W : World, W = w.alloc (.cells #[.int .i64 x0, .int .i64 x1, .int .i64 x2, .string x3, .string x4, .int .i64 x5, .int .i64 x6, .int .i64 x7] TC) := ⟨_, rfl⟩
  have hB : Below w.heap.size w W := by rw [hW]; exact (Below.refl _ w).alloc (Nat.le_refl _) _
  have b0 : W.heap[w.heap.size]? = some (.cells #[.int .i64 x0, .int .i64 x1, .int .i64 x2, .string x3, .string x4, .int .i64 x5, .int .i64 x6, .int .i64 x7] TC (0, 0)) := by rw [hW]; exact heap_alloc_new w _
  have hRW := h.below hB
  have HR := Aside0.mk hRW
  have k1 : W.cell? ⟨w.heap.size, 1, none⟩ = some (.int .i64 x1) := (blk_cell b0 1).trans rfl
  have k3 : W.cell? ⟨w.heap.size, 3, none⟩ = some (.string x3) := (blk_cell b0 3).trans rfl
  have HW := Aside0.mk hW
  have HB := Aside0.mk hB
  clear hB b0 h
  show Calls _ _ _ _ fun e w' => e = .returned (.int .i64 (if F.dirE x1 = 0 then (if goodB x3 = true then (if (F.it x1).f1.any (namedB x3) = true then 4 else 0) else 1) else F.dirE x1)) ∧ Below w.heap.size w w'
  unfold encC
  by_cases gg : F.dirE x1 = 0
  · rw [if_pos gg]
    have cD := fun W' hh => dir_calls g F x1 W' hh
    rw [gg] at cD
    obtain ⟨⟨g0, g1⟩, _⟩ := Fs.dirE_zero gg
    clear gg
    cases hg : goodB x3 with
    | false =>
      rw [if_neg (by simp)]
      go_enter Tryd.func46, Tryd.ntmps46
      go_wp2_with fail
      rw [← hW]
      clear hW
      refine (cD W HR.out).mono ?_
      rintro e w1 ⟨rfl, rfl⟩
      go_wp2_with (go_at_call 61; refine (good_calls x3 W hs).mono ?_; rw [hg]; rintro e w2 ⟨rfl, hb2⟩)
      go_ret
      exact ⟨rfl, below_step HB.out hb2⟩
    | true =>
      rw [if_pos rfl]
      have fin : ∀ b : Bool, (F.it x1).f1.any (namedB x3) = b → Calls Tryd.prog 46 #[.pointer (some ⟨g, 0, none⟩), .agg #[.int .i64 x0, .int .i64 x1, .int .i64 x2, .string x3, .string x4, .int .i64 x5, .int .i64 x6, .int .i64 x7]] w fun e w' => e = .returned (.int .i64 (if b = true then 4 else 0)) ∧ Below w.heap.size w w' := by
        intro b ha
        go_enter Tryd.func46, Tryd.ntmps46
        go_wp2_with fail
        rw [← hW]
        clear hW
        refine (cD W HR.out).mono ?_
        rintro e w1 ⟨rfl, rfl⟩
        go_wp2_with (go_at_call 61; refine (good_calls x3 W hs).mono ?_; rw [hg]; rintro e w2 ⟨rfl, hb2⟩)
        obtain ⟨A0, c0, A1, c1, A2, c2, hb, l0, l1, h1, h2, h3⟩ := FsR.below HR.out hb2
        have k0 : w2.cell? ⟨g, 0, none⟩ = some (.slice A0 F.I.length c0) := (blk_cell hb 0).trans rfl
        obtain ⟨ad, A13, c13, rfl, q⟩ := at_T76 h1 x1 g0 g1
        have q13 := q.2.2.2.2.2.2.2.2.2.2.2.2.2.1
        have qC := q.2.2.2.2.2.2.2.2.2.2.2.2.2.2.2.2.2
        replace k1 := pw_cell_below hb2 k1
        replace k3 := pw_cell_below hb2 k3
        have cF := fun (W' : World) (hB' : Below w2.heap.size w2 W') => (containsFunc_ent 63 #[.pointer (some ⟨w.heap.size, 0, none⟩)] (namedB x3) W' A13 c13 (F.it x1).f1 (Kd.C_below qC.2 hB') qC.1 (Go.Proofs.enters_of Tryd.func63 (by kernel_rfl) rfl) (fun x W2 hb => closure_calls w.heap.size x3 x W2 (pw_cell_below hb (pw_cell_below hB' k3)))).mono (fun e w' (h : e = .returned (.bool ((F.it x1).f1.any (namedB x3))) ∧ Below W'.heap.size W' w') => (⟨by rw [← ha]; exact h.1, h.2⟩ : e = .returned (.bool b) ∧ Below W'.heap.size W' w'))
        have HB2 := Aside0.mk (below_step HB.out hb2)
        have HF := Aside0.mk cF
        clear q qC h1 h2 h3 hb hb2 k3 cF cD hRW ha
        go_region_with ((go_at_call 62; refine (HF.out _ (below_drew (Below.refl _ _))).mono ?_; rintro e w3 ⟨rfl, hb3⟩))
        all_goals
          cases b
          · go_wp2
            go_ret
            exact ⟨rfl, below_step HB2.out (below_step (below_drew (Below.refl _ _)) hb3)⟩
          · go_wp2
            go_ret
            exact ⟨rfl, below_step HB2.out (below_step (below_drew (Below.refl _ _)) hb3)⟩
      exact fin _ rfl
  · rw [if_neg gg]
    have b1 : (F.dirE x1 != 0) = true := by rw [bne_iff_ne]; exact gg
    clear gg
    have cD := fun W' hh => dir_calls g F x1 W' hh
    generalize F.dirE x1 = y at *
    go_enter Tryd.func46, Tryd.ntmps46
    go_wp2_with fail
    rw [← hW]
    clear hW
    refine (cD W HR.out).mono ?_
    rintro e w1 ⟨rfl, rfl⟩
    go_wp2
    go_ret
    exact ⟨rfl, HB.out⟩
end Go.Proofs.YtcbjkfhflmlniaaDoor.QVfs
