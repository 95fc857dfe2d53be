/- slices.IndexFunc over specs and over options, whatever function is handed in that makes memory of its own alone; slices.ContainsFunc. -/
import Derived.Test.YtljlhknpfnphnaaXRdr
import Derived.Shelf.Abstract
namespace Go.Proofs.Ytljlhknpfnphnaa.QOpts
open Go.RowKit Go.Lib Go.Proofs.YtljlhknpfnphnaaW.PrintWords Go.Proofs.YtljlhknpfnphnaaW.PrintLast Go.Proofs.YtljlhknpfnphnaaW.PrintMore
set_option linter.unusedVariables false
set_option linter.unusedSimpArgs false

/-- The place of the first element that is told; -1: none is. -/
def Idx {α : Type} (p : α → Bool) (l : List α) (r : Int) : Prop :=
  (∃ k : Nat, ∃ h : k < l.length, r = (k : Int) ∧ p l[k] = true ∧ ∀ j (hj : j < k), p (l[j]'(by omega)) = false) ∨ (r = -1 ∧ ∀ x ∈ l, p x = false)
def IdxPost {α : Type} (p : α → Bool) (l : List α) (w : World) (e : Ending) (w' : World) : Prop := ∃ r, e = .returned (.int .i64 r) ∧ Idx p l r ∧ Below w.heap.size w w'
def NoneB {α : Type} (p : α → Bool) (l : List α) (k : Nat) : Prop := ∀ j (h : j < l.length), j < k → p l[j] = false
set_option maxHeartbeats 2000000 in
theorem indexFunc_spec (g : Nat) (lb : Array Value) (p : S42 → Bool) (w : World) (A : Option Addr) (c : Nat) (l : List S42) (hC : Kd.C k42 w A l.length l) (hc : l.length ≤ c)
    (eg : ∀ args w, (callFunc g args).run Try.prog w = .ok (.enter g args) w)
    (hf : ∀ (x : S42) (W : World), Below w.heap.size w W → Calls Try.prog g (#[.agg #[.int .u8 x.f0, .string x.f1, .bool x.f2]] ++ lb) W fun e w' => e = .returned (.bool (p x)) ∧ Below W.heap.size W w') :
    Calls Try.prog 38 #[.slice A l.length c, .func (.func g) #[] lb] w (IdxPost p l w) := by
  have hm := Kd.C_max hC
  have A1 := Aside0.mk hC
  have A2 := Aside0.mk hf
  clear hC hf
  go_enter Try.func38, Try.ntmps38
  go_wp2
  go_loopw [8] (fun v8 wr => ∃ k : Nat, v8 = .int .i64 k ∧ k ≤ l.length ∧ Aside0 (Below w.heap.size w wr) ∧ Aside0 (NoneB p l k)) (fun v8 _ => l.length - (intOf v8).toNat)
  case atStart => exact ⟨0, rfl, Nat.zero_le _, ⟨Below.refl _ _⟩, ⟨fun j h h' => by omega⟩⟩
  case round =>
    obtain ⟨k, rfl, hk, HB, HN⟩ := hrel
    by_cases hlt : k < l.length
    · obtain ⟨ad, he, k0, k1, k2⟩ := at_T42 (Kd.C_below A1.out HB.out) (k : Int) (by omega) (by omega)
      have ex : rd_T42 l (k : Int) = l[k] := by unfold rd_T42; simp [hlt]
      rw [ex, Int.toNat_natCast] at k0 k1 k2
      have hcall := A2.out l[k] wr HB.out
      have n1 : (k : Int) < (l.length : Int) := by omega
      subst he
      cases hp : p l[k]
      · rw [hp] at hcall
        go_wp2_with (go_at_fn g; refine hcall.mono ?_; rintro e w1 ⟨rfl, hb1⟩)
        go_roundw
        case rel => exact ⟨k + 1, by go_num, by omega, ⟨below_step HB.out hb1⟩, ⟨fun j h h' => by
          rcases Nat.lt_or_ge j k with h2 | h2
          · exact HN.out j h h2
          · obtain rfl : j = k := by omega
            exact hp⟩⟩
        case measure => simp [intOf]; omega
      · rw [hp] at hcall
        go_wp2_with (go_at_fn g; refine hcall.mono ?_; rintro e w1 ⟨rfl, hb1⟩)
        go_ret
        exact ⟨_, rfl, .inl ⟨k, hlt, rfl, hp, fun j hj => HN.out j (by omega) hj⟩, below_step HB.out hb1⟩
    · go_wp2
      go_ret
      refine ⟨_, rfl, .inr ⟨rfl, fun x hx => ?_⟩, HB.out⟩
      obtain ⟨j, hj, rfl⟩ := List.getElem_of_mem hx
      exact HN.out j hj (by omega)
set_option maxHeartbeats 2000000 in
theorem indexFunc_opt (g : Nat) (lb : Array Value) (p : S36 → Bool) (w : World) (A : Option Addr) (c : Nat) (l : List S36) (hC : Kd.C k36 w A l.length l) (hc : l.length ≤ c)
    (eg : ∀ args w, (callFunc g args).run Try.prog w = .ok (.enter g args) w)
    (hf : ∀ (x : S36) (W : World), Below w.heap.size w W → Calls Try.prog g (#[.agg #[.int .u8 x.f0, .string x.f1]] ++ lb) W fun e w' => e = .returned (.bool (p x)) ∧ Below W.heap.size W w') :
    Calls Try.prog 31 #[.slice A l.length c, .func (.func g) #[] lb] w (IdxPost p l w) := by
  have hm := Kd.C_max hC
  have A1 := Aside0.mk hC
  have A2 := Aside0.mk hf
  clear hC hf
  go_enter Try.func31, Try.ntmps31
  go_wp2
  go_loopw [8] (fun v8 wr => ∃ k : Nat, v8 = .int .i64 k ∧ k ≤ l.length ∧ Aside0 (Below w.heap.size w wr) ∧ Aside0 (NoneB p l k)) (fun v8 _ => l.length - (intOf v8).toNat)
  case atStart => exact ⟨0, rfl, Nat.zero_le _, ⟨Below.refl _ _⟩, ⟨fun j h h' => by omega⟩⟩
  case round =>
    obtain ⟨k, rfl, hk, HB, HN⟩ := hrel
    by_cases hlt : k < l.length
    · obtain ⟨ad, he, k0, k1⟩ := at_T36 (Kd.C_below A1.out HB.out) (k : Int) (by omega) (by omega)
      have ex : rd_T36 l (k : Int) = l[k] := by unfold rd_T36; simp [hlt]
      rw [ex, Int.toNat_natCast] at k0 k1
      have hcall := A2.out l[k] wr HB.out
      have n1 : (k : Int) < (l.length : Int) := by omega
      subst he
      cases hp : p l[k]
      · rw [hp] at hcall
        go_wp2_with (go_at_fn g; refine hcall.mono ?_; rintro e w1 ⟨rfl, hb1⟩)
        go_roundw
        case rel => exact ⟨k + 1, by go_num, by omega, ⟨below_step HB.out hb1⟩, ⟨fun j h h' => by
          rcases Nat.lt_or_ge j k with h2 | h2
          · exact HN.out j h h2
          · obtain rfl : j = k := by omega
            exact hp⟩⟩
        case measure => simp [intOf]; omega
      · rw [hp] at hcall
        go_wp2_with (go_at_fn g; refine hcall.mono ?_; rintro e w1 ⟨rfl, hb1⟩)
        go_ret
        exact ⟨_, rfl, .inl ⟨k, hlt, rfl, hp, fun j hj => HN.out j (by omega) hj⟩, below_step HB.out hb1⟩
    · go_wp2
      go_ret
      refine ⟨_, rfl, .inr ⟨rfl, fun x hx => ?_⟩, HB.out⟩
      obtain ⟨j, hj, rfl⟩ := List.getElem_of_mem hx
      exact HN.out j hj (by omega)
def AnyPost {α : Type} (p : α → Bool) (l : List α) (w : World) (e : Ending) (w' : World) : Prop := e = .returned (.bool (l.any p)) ∧ Below w.heap.size w w'
theorem Idx.any {α : Type} {p : α → Bool} {l : List α} {r : Int} (h : Idx p l r) : l.any p = decide (0 ≤ r) := by
  rcases h with ⟨k, hk, rfl, hp, _⟩ | ⟨rfl, hn⟩
  · rw [decide_eq_true (by omega), List.any_eq_true]
    exact ⟨_, List.getElem_mem hk, hp⟩
  · rw [decide_eq_false (by omega), List.any_eq_false]
    intro x hx; rw [hn x hx]; decide
set_option maxHeartbeats 2000000 in
theorem containsFunc_opt (g : Nat) (lb : Array Value) (p : S36 → Bool) (w : World) (A : Option Addr) (c : Nat) (l : List S36) (hC : Kd.C k36 w A l.length l) (hc : l.length ≤ c)
    (eg : ∀ args w, (callFunc g args).run Try.prog w = .ok (.enter g args) w)
    (hf : ∀ (x : S36) (W : World), Below w.heap.size w W → Calls Try.prog g (#[.agg #[.int .u8 x.f0, .string x.f1]] ++ lb) W fun e w' => e = .returned (.bool (p x)) ∧ Below W.heap.size W w') :
    Calls Try.prog 22 #[.slice A l.length c, .func (.func g) #[] lb] w (AnyPost p l w) := by
  have cI := indexFunc_opt g lb p w A c l hC hc eg hf
  clear hC hf eg
  go_enter Try.func22, Try.ntmps22
  go_wp2_with (go_at_call 31; refine cI.mono ?_; rintro e w' ⟨r, rfl, hi, hb⟩)
  have he := hi.any
  go_ret
  unfold AnyPost
  rw [he]
  exact ⟨rfl, hb⟩
/-- What a name means: exactly. -/
def exactP (name : ByteArray) (x : S42) : Bool := !x.f1.toList.isEmpty && (x.f1.toList == name.toList)
def letterP (c : Int) (x : S42) : Bool := x.f0 == c
def optP (c : Int) (x : S36) : Bool := x.f0 == c
set_option maxHeartbeats 1000000 in
theorem closure42 (g : Nat) (name : ByteArray) (x : S42) (W : World) (hc : W.cell? ⟨g, 0, none⟩ = some (.string name)) :
    Calls Try.prog 42 (#[.agg #[.int .u8 x.f0, .string x.f1, .bool x.f2]] ++ #[.pointer (some ⟨g, 0, none⟩)]) W fun e w' => e = .returned (.bool (exactP name x)) ∧ Below W.heap.size W w' := by
  show Calls Try.prog 42 #[.agg #[.int .u8 x.f0, .string x.f1, .bool x.f2], .pointer (some ⟨g, 0, none⟩)] W _
  have hlt : g < W.heap.size := World.block_lt_of_cell? W _ hc
  have hb := below_alloc (Below.refl _ W) (Obj.cells #[.int .u8 x.f0, .string x.f1, .bool x.f2] 42)
  have hc2 := pw_cell_below hb hc
  unfold exactP
  cases h1 : x.f1.toList.isEmpty
  · have b1 : (x.f1.toList != []) = true := by cases h : x.f1.toList <;> simp_all
    go_enter Try.func42, Try.ntmps42
    go_wp2
    all_goals (go_ret; exact ⟨by simp, hb⟩)
  · have b1 : x.f1.toList = [] := by simpa using h1
    go_enter Try.func42, Try.ntmps42
    go_wp2
    all_goals (go_ret; exact ⟨by simp, hb⟩)
set_option maxHeartbeats 1000000 in
theorem closure39 (ga gi : Nat) (arg : ByteArray) (i : Int) (x : S42) (W : World) (hc : W.cell? ⟨ga, 0, none⟩ = some (.string arg)) (hd : W.cell? ⟨gi, 0, none⟩ = some (.int .i64 i)) (h0 : 0 ≤ i) (h1 : i < (arg.size : Int)) :
    Calls Try.prog 39 (#[.agg #[.int .u8 x.f0, .string x.f1, .bool x.f2]] ++ #[.pointer (some ⟨ga, 0, none⟩), .pointer (some ⟨gi, 0, none⟩)]) W fun e w' => e = .returned (.bool (letterP (bt arg i) x)) ∧ Below W.heap.size W w' := by
  show Calls Try.prog 39 #[.agg #[.int .u8 x.f0, .string x.f1, .bool x.f2], .pointer (some ⟨ga, 0, none⟩), .pointer (some ⟨gi, 0, none⟩)] W _
  have hb := below_alloc (Below.refl _ W) (Obj.cells #[.int .u8 x.f0, .string x.f1, .bool x.f2] 42)
  have hc2 := pw_cell_below hb hc
  have hd2 := pw_cell_below hb hd
  have hx := bt_at arg i
  replace h0 := eq_true h0
  replace h1 := eq_true h1
  unfold letterP
  go_enter Try.func39, Try.ntmps39
  go_wp2
  go_quiet (fail)
  all_goals (go_wp2; go_ret; exact ⟨rfl, pw_below_drewN hb _⟩)
set_option maxHeartbeats 1000000 in
theorem closure23 (g : Nat) (c : Int) (x : S36) (W : World) (hc : W.cell? ⟨g, 0, none⟩ = some (.int .u8 c)) :
    Calls Try.prog 23 (#[.agg #[.int .u8 x.f0, .string x.f1]] ++ #[.pointer (some ⟨g, 0, none⟩)]) W fun e w' => e = .returned (.bool (optP c x)) ∧ Below W.heap.size W w' := by
  show Calls Try.prog 23 #[.agg #[.int .u8 x.f0, .string x.f1], .pointer (some ⟨g, 0, none⟩)] W _
  have hb := below_alloc (Below.refl _ W) (Obj.cells #[.int .u8 x.f0, .string x.f1] 36)
  have hc2 := pw_cell_below hb hc
  unfold optP
  go_enter Try.func23, Try.ntmps23
  go_wp2
  go_ret
  exact ⟨rfl, hb⟩
end Go.Proofs.Ytljlhknpfnphnaa.QOpts
