import Derived.Test.YtcbjkfhflmlniaaDoorKXPa2
import Derived.ScopeJumps
import Derived.WalkMore
-- Texts of this seat, what the claim does not reach struck out by a program.
section
namespace Go.Proofs.YtcbjkfhflmlniaaDoor.QVfs
open Go.RowKit Go.Proofs.YtcbjkfhflmlniaaDoorW.PrintWords Go.Proofs.YtcbjkfhflmlniaaDoorW.PrintLast Go.Proofs.YtcbjkfhflmlniaaDoorW.PrintMore
set_option linter.unusedVariables false
set_option linter.unusedSimpArgs false
abbrev dotB : ByteArray := ⟨#[46]⟩
abbrev dotsB : ByteArray := ⟨#[46, 46]⟩
def Wk.step (F : Fs) (u g : Int) (S : Wk) (name : ByteArray) : Int × Wk :=
 if F.mayE u g S.id name = 0 then
  if name = dotB then (0, S.to F S.id) else if name = dotsB then (0, S.to F (F.upE S.id)) else S.entry F name
 else (F.mayE u g S.id name, S)
theorem toList_injB (s t : ByteArray) (h : s.toList = t.toList) : s = t := by
 rw [ByteArray.toList_eq, ByteArray.toList_eq] at h
 exact ByteArray.ext (Array.toList_inj.1 h)
theorem beq_no {s t : ByteArray} (h : s ≠ t) : (s.toList == t.toList) = false := by
 rw [beq_eq_false_iff_ne]; exact fun e => h (toList_injB _ _ e)
set_option maxHeartbeats 8000000 in
set_option maxRecDepth 100000 in
theorem step_done {E : Env4} {base : Nat} {ok : Nat → Prop} {F : Fs} {v : Value} {S : Wk} (name : ByteArray) (W : World) (h : WkAt E base ok F v S W) (ht : ∀ id, (F.linkT id).size ≤ 100000) (he : ∀ i, (F.at i).f1.length ≤ 100000) (hl : S.left.length ≤ 10000000) (h0 : 0 ≤ S.hops) (h1 : S.hops ≤ 1000) :
  Calls Tryd.prog 28 #[.pointer (some ⟨E.gw, 0, none⟩), .string name] W (Done E base ok F (S.step F E.uid E.gid name).2 (.int .i64 (S.step F E.uid E.gid name).1) W) := by
 have hM := may_calls name W h
 have hlt := h.lt
 by_cases hE : F.mayE E.uid E.gid S.id name = 0
 ·rw [hE] at hM
  have HM := Aside0.mk hM
  have HE := Aside0.mk hE
  have HH := Aside0.mk h
  have HLT := Aside0.mk hlt
  clear hM hE hlt
  by_cases h46 : name = dotB
  ·have hr : S.step F E.uid E.gid name = (0, S.to F S.id) := by unfold Wk.step; rw [if_pos HE.out, if_pos h46]
   have HR := Aside0.mk hr
   subst h46
   clear hr h HE
   obtain ⟨g, uid, gid, gw⟩ := E
   go_enter Tryd.func28, Tryd.ntmps28
   go_wp2_with fail
   refine HM.out.mono ?_
   rintro e w1 ⟨rfl, hb1⟩
   have h1 := HH.out.below hb1
   obtain ⟨c0, -, -, -, -, -, c6, -, -, -⟩ := h1.cells
   have HT := Aside0.mk (to_calls S.id w1 h1)
   have HB := Aside0.mk hb1
   clear h1 hb1
   go_wp2_with fail
   refine HT.out.mono ?_
   rintro e w2 ⟨rfl, h2, hb2⟩
   have H2 := Aside0.mk (And.intro h2 hb2)
   clear h2 hb2
   go_wp2_with fail
   go_ret
   have hlow : Below gw W w1 := below_low HB.out (by have := HLT.out; exact Nat.le_of_lt this)
   exact ⟨by rw [HR.out]; rfl, by rw [HR.out]; exact H2.out.1, hlow.trans H2.out.2⟩
  ·by_cases h4646 : name = dotsB
   ·have hr : S.step F E.uid E.gid name = (0, S.to F (F.upE S.id)) := by unfold Wk.step; rw [if_pos HE.out, if_neg h46, if_pos h4646]
    have HR := Aside0.mk hr
    subst h4646
    clear hr h HE h46
    obtain ⟨g, uid, gid, gw⟩ := E
    go_enter Tryd.func28, Tryd.ntmps28
    go_wp2_with fail
    refine HM.out.mono ?_
    rintro e w1 ⟨rfl, hb1⟩
    have h1 := HH.out.below hb1
    obtain ⟨c0, -, -, -, -, -, c6, -, -, -⟩ := h1.cells
    have HU : Aside0 (∀ w', Below w1.heap.size w1 w' → Calls Tryd.prog 15 #[.pointer (some ⟨g, 0, none⟩), .int .i64 S.id] w' fun e w2 => e = .returned (.int .i64 (F.upE S.id)) ∧ w' = w2) := Aside0.mk fun w' hb => up_calls g F S.id w' (h1.fs.read.below hb)
    have HT : Aside0 (∀ w', Below w1.heap.size w1 w' → Calls Tryd.prog 27 #[.pointer (some ⟨gw, 0, none⟩), .int .i64 (F.upE S.id)] w' (Done ⟨g, uid, gid, gw⟩ base ok F (S.to F (F.upE S.id)) (.tuple #[]) w')) := Aside0.mk fun w' hb => to_calls (F.upE S.id) w' (h1.below hb)
    have HB := Aside0.mk hb1
    have hlow : Aside0 (Below gw W w1) := Aside0.mk (below_low hb1 (by have := HLT.out; exact Nat.le_of_lt this))
    clear h1 hb1
    go_wp2_with fail
    go_region_with ((first | (go_at_call 15; refine (HU.out _ (by repeat (first | exact Below.refl _ _ | apply below_alloc | apply pw_below_drewN | apply below_drew1 | apply below_drew))).mono ?_; rintro e w4 ⟨rfl, rfl⟩) | (go_at_call 27; refine (HT.out _ (by repeat (first | exact Below.refl _ _ | apply below_alloc | apply pw_below_drewN | apply below_drew1 | apply below_drew))).mono ?_; rintro e w5 ⟨rfl, h5, hb5⟩)))
    all_goals
     have H5 := Aside0.mk (And.intro h5 hb5)
     clear h5 hb5
     go_wp2_with fail
     go_ret
     refine ⟨by rw [HR.out]; rfl, by rw [HR.out]; exact H5.out.1, ?_⟩
     first | exact (below_drew1 hlow.out).trans H5.out.2 | exact hlow.out.trans H5.out.2
   ·have hr : S.step F E.uid E.gid name = S.entry F name := by unfold Wk.step; rw [if_pos HE.out, if_neg h46, if_neg h4646]
    have HR := Aside0.mk hr
    have b1 : (name.toList == ([46] : List UInt8)) = false := by have := beq_no h46; rwa [show dotB.toList = [46] by decide +kernel] at this
    have b2 : (name.toList == ([46, 46] : List UInt8)) = false := by have := beq_no h4646; rwa [show dotsB.toList = [46, 46] by decide +kernel] at this
    have hN : ∀ w', Below W.heap.size W w' → Calls Tryd.prog 43 #[.pointer (some ⟨E.gw, 0, none⟩), .string name] w' (Done E base ok F (S.entry F name).2 (.int .i64 (S.entry F name).1) w') := fun w' hb => entry_done name w' (HH.out.below hb) ht he hl h0 h1
    have HN := Aside0.mk hN
    clear hr h HE h46 h4646 ht he hl h0 h1 hN
    obtain ⟨g, uid, gid, gw⟩ := E
    go_enter Tryd.func28, Tryd.ntmps28
    go_wp2_with fail
    refine HM.out.mono ?_
    rintro e w1 ⟨rfl, hb1⟩
    have hlow : Aside0 (Below gw W w1) := Aside0.mk (below_low hb1 (by have := HLT.out; exact Nat.le_of_lt this))
    have HN1 := Aside0.mk (HN.out w1 hb1)
    clear hb1 HN
    go_wp2_with fail
    refine HN1.out.mono ?_
    rintro e w2 ⟨rfl, h2, hb2⟩
    have H2 := Aside0.mk (And.intro h2 hb2)
    clear h2 hb2
    go_wp2_with fail
    go_ret
    exact ⟨by rw [HR.out]; rfl, by rw [HR.out]; exact H2.out.1, hlow.out.trans H2.out.2⟩
 ·have hr : S.step F E.uid E.gid name = (F.mayE E.uid E.gid S.id name, S) := by unfold Wk.step; rw [if_neg hE]
  have HR := Aside0.mk hr
  have HH := Aside0.mk h
  have HLT := Aside0.mk hlt
  have HM := Aside0.mk hM
  have b1 : (F.mayE E.uid E.gid S.id name != 0) = true := by rw [bne_iff_ne]; exact hE
  clear hr h hE hM hlt
  obtain ⟨g, uid, gid, gw⟩ := E
  simp only at *
  generalize F.mayE uid gid S.id name = er at *
  go_enter Tryd.func28, Tryd.ntmps28
  go_wp2_with fail
  refine HM.out.mono ?_
  rintro e w1 ⟨rfl, hb1⟩
  have h1 := HH.out.below hb1
  have HB := Aside0.mk (And.intro h1 hb1)
  clear h1 hb1
  go_wp2_with fail
  go_ret
  exact ⟨by rw [HR.out]; rfl, ⟨_, by rw [HR.out]; exact HB.out.1⟩, below_low HB.out.2 (by have := HLT.out; exact Nat.le_of_lt this)⟩
end Go.Proofs.YtcbjkfhflmlniaaDoor.QVfs
end

section
namespace Go.Proofs.YtcbjkfhflmlniaaDoor.QVfs
open Go.RowKit Go.Proofs.YtcbjkfhflmlniaaDoorW.PrintWords Go.Proofs.YtcbjkfhflmlniaaDoorW.PrintLast Go.Proofs.YtcbjkfhflmlniaaDoorW.PrintMore
set_option linter.unusedVariables false
set_option linter.unusedSimpArgs false
def Exit.one (n : Nat) (J : Nat → Act → World → Prop) (Q : Exit → Act → World → Prop) : Exit → Act → World → Prop
 | .goto l, a, w => l = 0 ∧ ∃ m, m < n ∧ J m a w
 | e, a, w => Q e a w
section
variable {n : Nat} {J : Nat → Act → World → Prop} {Q : Exit → Act → World → Prop} {a : Act} {w : World}
@[go_sem] theorem Exit.one_normal : Exit.one n J Q .normal a w = Q .normal a w := rfl
@[go_sem] theorem Exit.one_exit (id : Nat) : Exit.one n J Q (.exit id) a w = Q (.exit id) a w := rfl
@[go_sem] theorem Exit.one_ret : Exit.one n J Q .ret a w = Q .ret a w := rfl
@[go_sem] theorem Exit.one_panic (ch : List PanicEntry) : Exit.one n J Q (.panic ch) a w = Q (.panic ch) a w := rfl
theorem Exit.one_mono {m : Nat} (h : n ≤ m) (e : Exit) (a : Act) (w : World) (hq : Exit.one n J Q e a w) : Exit.one m J Q e a w := by
 cases e with
 | goto l => obtain ⟨h1, k, h2, h3⟩ := hq; exact ⟨h1, k, by omega, h3⟩
 | normal => exact hq
 | exit => exact hq
 | ret => exact hq
 | panic => exact hq
 | outgrown => exact hq
theorem wp_scope_one {P : Program} {c r0 : Code} (N : Nat) (J : Nat → Act → World → Prop) (h0 : findLabel c 0 = some (.seq .skip r0))
  (pass0 : ∀ n a w, J n a w → r0.wp P (Exit.one n J Q) a w)
  (first : (∀ n a w, n < N → J n a w → r0.wp P (Exit.one N J Q) a w) → c.wp P (Exit.one N J Q) a w) : (Code.scope c).wp P Q a w := by
 intro b k cs
 have hg0 : gotoIn 0 (.inScope c :: k) = some (.code (.seq .skip r0) :: .inScope c :: k) := by simp [gotoIn, h0]
 have sk : ∀ {r : Code} {Q' : Exit → Act → World → Prop} {a w}, r.wp P Q' a w → (Code.seq .skip r).wp P Q' a w := fun h => wp_seq (wp_skip h)
 have key : ∀ n a w, J n a w → ∃ e a' w', Q e a' w' ∧ Arrives P (lone (b.at a (.code (.seq .skip r0) :: .inScope c :: k)) cs w) b k cs e a' w' := by
  intro n
  induction n using Nat.strongRecOn with
  | _ n ih =>
   intro a w hJ
   obtain ⟨e, a₁, w₁, hq, harr⟩ := sk (pass0 n a w hJ) b (.inScope c :: k) cs
   cases e with
   | normal => exact ⟨_, _, _, hq, Steps.trans harr (.one step_inScope)⟩
   | exit id => exact ⟨_, _, _, hq, fun k' hk => harr k' (by simp [exitTo, hk])⟩
   | goto l' =>
    obtain ⟨rfl, m, hm, hJ'⟩ := hq
    obtain ⟨e₂, a₂, w₂, hq₂, harr₂⟩ := ih m hm a₁ w₁ hJ'
    exact ⟨e₂, a₂, w₂, hq₂, .of_steps (harr _ hg0) harr₂⟩
   | ret => exact ⟨_, _, _, hq, harr⟩
   | panic ch => exact ⟨_, _, _, hq, harr⟩
   | outgrown => exact ⟨_, _, _, hq, harr⟩
 have h := first fun n a w hn hJ => wp_mono (pass0 n a w hJ) (Exit.one_mono (by omega))
 obtain ⟨e, a₁, w₁, hq, harr⟩ := h b (.inScope c :: k) cs
 cases e with
 | normal => exact ⟨.normal, a₁, w₁, hq, .head step_scope (Steps.trans harr (.one step_inScope))⟩
 | exit id => exact ⟨.exit id, a₁, w₁, hq, fun k' hk => .head step_scope (harr k' (by simp [exitTo, hk]))⟩
 | goto l' =>
  obtain ⟨rfl, m, hm, hJ'⟩ := hq
  obtain ⟨e₂, a₂, w₂, hq₂, harr₂⟩ := key _ a₁ w₁ hJ'
  exact ⟨e₂, a₂, w₂, hq₂, .of_steps (.head step_scope (harr _ hg0)) harr₂⟩
 | ret => exact ⟨_, a₁, w₁, hq, .of_steps (.one step_scope) harr⟩
 | panic ch => exact ⟨_, a₁, w₁, hq, .of_steps (.one step_scope) harr⟩
 | outgrown => exact ⟨_, a₁, w₁, hq, .of_steps (.one step_scope) harr⟩
end
inductive Walks (F : Fs) (u g : Int) : Wk → Int → Wk → Prop
 | done {S : Wk} (h : S.left = []) : Walks F u g S 0 S
 | stop {S S' : Wk} {e : Int} {name : ByteArray} {r : List ByteArray} (h : S.left = name :: r) (hs : Wk.step F u g { S with left := r } name = (e, S')) (he : e ≠ 0) : Walks F u g S e S'
 | on {S S' S2 : Wk} {e : Int} {name : ByteArray} {r : List ByteArray} (h : S.left = name :: r) (hs : Wk.step F u g { S with left := r } name = (0, S')) (hw : Walks F u g S' e S2) : Walks F u g S e S2
def startW (F : Fs) (path : ByteArray) (follow : Bool) : Wk := Wk.to F ⟨namesOf path, ends path, follow, 0, 0, ⟨#[]⟩, 0⟩ 0
def placeV (S : Wk) : Array Value := #[.int .i64 S.id, .int .i64 S.dir, .string S.name, .int .i64 S.hops]
abbrev noPlace : Array Value := #[.int .i64 0, .int .i64 0, .string ⟨#[]⟩, .int .i64 0]
def Fs.answer (F : Fs) (e : Int) (S : Wk) : Array Value × Int := if e = 0 then (if S.slash = true ∧ (F.nodeN S.id).f2 ≠ 2 then (noPlace, 3) else (placeV S, 0)) else (noPlace, e)
def Fs.walked (F : Fs) (u g : Int) (path : ByteArray) (follow : Bool) (r : Array Value × Int) : Prop :=
 (path.size = 0 ∧ r = (noPlace, 2)) ∨ (4096 < path.size ∧ r = (noPlace, 7)) ∨ (0 < path.size ∧ path.size ≤ 4096 ∧ ∃ e S, Walks F u g (startW F path follow) e S ∧ r = F.answer e S)
def WaFr (g bq bp gw : Nat) (path : ByteArray) (follow : Bool) (a : Act) : Prop := ∃ u : Nat → Value, a = { tmps := #[.pointer (some ⟨g, 0, none⟩), u 1, .string path, .bool follow, u 4, .pointer (some ⟨bq, 0, none⟩), u 6, u 7, .pointer (some ⟨bp, 0, none⟩), .int .i64 0, .pointer (some ⟨gw, 0, none⟩), u 11, u 12, u 13, u 14, u 15, u 16, u 17, u 18, u 19, u 20, u 21, u 22, u 23, u 24, u 25, u 26, u 27, u 28, u 29, u 30, u 31, u 32, u 33, u 34, u 35, u 36, u 37, u 38, u 39, u 40, u 41, u 42, u 43, u 44, u 45, u 46, u 47, u 48, u 49, u 50, u 51, u 52, u 53, u 54, u 55, u 56, u 57, u 58, u 59, u 60, u 61, u 62, u 63, u 64, u 65, u 66, u 67, u 68, u 69, u 70, u 71, u 72, u 73, u 74, u 75, u 76, u 77, u 78, u 79, u 80, u 81, u 82, u 83, u 84, u 85, u 86, u 87, u 88, u 89, u 90, u 91, u 92, u 93], defers := [] }
theorem WaFr.mk' {g bq bp gw : Nat} {path : ByteArray} {follow : Bool} {x1 x4 x6 x7 x11 x12 x13 x14 x15 x16 x17 x18 x19 x20 x21 x22 x23 x24 x25 x26 x27 x28 x29 x30 x31 x32 x33 x34 x35 x36 x37 x38 x39 x40 x41 x42 x43 x44 x45 x46 x47 x48 x49 x50 x51 x52 x53 x54 x55 x56 x57 x58 x59 x60 x61 x62 x63 x64 x65 x66 x67 x68 x69 x70 x71 x72 x73 x74 x75 x76 x77 x78 x79 x80 x81 x82 x83 x84 x85 x86 x87 x88 x89 x90 x91 x92 x93 : Value} : WaFr g bq bp gw path follow { tmps := #[.pointer (some ⟨g, 0, none⟩), x1, .string path, .bool follow, x4, .pointer (some ⟨bq, 0, none⟩), x6, x7, .pointer (some ⟨bp, 0, none⟩), .int .i64 0, .pointer (some ⟨gw, 0, none⟩), x11, x12, x13, x14, x15, x16, x17, x18, x19, x20, x21, x22, x23, x24, x25, x26, x27, x28, x29, x30, x31, x32, x33, x34, x35, x36, x37, x38, x39, x40, x41, x42, x43, x44, x45, x46, x47, x48, x49, x50, x51, x52, x53, x54, x55, x56, x57, x58, x59, x60, x61, x62, x63, x64, x65, x66, x67, x68, x69, x70, x71, x72, x73, x74, x75, x76, x77, x78, x79, x80, x81, x82, x83, x84, x85, x86, x87, x88, x89, x90, x91, x92, x93], defers := [] } := ⟨fun | 1 => x1 | 4 => x4 | 6 => x6 | 7 => x7 | 11 => x11 | 12 => x12 | 13 => x13 | 14 => x14 | 15 => x15 | 16 => x16 | 17 => x17 | 18 => x18 | 19 => x19 | 20 => x20 | 21 => x21 | 22 => x22 | 23 => x23 | 24 => x24 | 25 => x25 | 26 => x26 | 27 => x27 | 28 => x28 | 29 => x29 | 30 => x30 | 31 => x31 | 32 => x32 | 33 => x33 | 34 => x34 | 35 => x35 | 36 => x36 | 37 => x37 | 38 => x38 | 39 => x39 | 40 => x40 | 41 => x41 | 42 => x42 | 43 => x43 | 44 => x44 | 45 => x45 | 46 => x46 | 47 => x47 | 48 => x48 | 49 => x49 | 50 => x50 | 51 => x51 | 52 => x52 | 53 => x53 | 54 => x54 | 55 => x55 | 56 => x56 | 57 => x57 | 58 => x58 | 59 => x59 | 60 => x60 | 61 => x61 | 62 => x62 | 63 => x63 | 64 => x64 | 65 => x65 | 66 => x66 | 67 => x67 | 68 => x68 | 69 => x69 | 70 => x70 | 71 => x71 | 72 => x72 | 73 => x73 | 74 => x74 | 75 => x75 | 76 => x76 | 77 => x77 | 78 => x78 | 79 => x79 | 80 => x80 | 81 => x81 | 82 => x82 | 83 => x83 | 84 => x84 | 85 => x85 | 86 => x86 | 87 => x87 | 88 => x88 | 89 => x89 | 90 => x90 | 91 => x91 | 92 => x92 | 93 => x93 | _ => undef, rfl⟩
def Wk.mu (S : Wk) : Nat := (41 - S.hops.toNat) * 1000000 + S.left.length
structure Wk.Fit (S : Wk) : Prop where
 h0 : 0 ≤ S.hops
 h1 : S.hops ≤ 40
 l : S.left.length ≤ (S.hops.toNat + 1) * 100002
theorem Wk.link_fit {F : Fs} {S : Wk} {id dir : Int} (h : S.Fit) (ht : (F.linkT id).size ≤ 100000) (he : (S.link F id dir).1 = 0) : (S.link F id dir).2.Fit ∧ (S.link F id dir).2.mu < S.mu := by
 have hn := namesOf_len (F.linkT id)
 obtain ⟨h0, h1, hl⟩ := h
 unfold Wk.link at he ⊢
 by_cases c : 40 < S.hops + 1
 ·rw [if_pos c] at he; cases he
 ·rw [if_neg c] at he ⊢
  by_cases c2 : F.linkE id = 0
  ·rw [if_pos c2]
   have key : ∀ T : Wk, T.left = namesOf (F.linkT id) ++ S.left → T.hops = S.hops + 1 → T.Fit ∧ T.mu < S.mu := fun T e1 e2 => by
    have e3 : T.left.length = (namesOf (F.linkT id)).length + S.left.length := by rw [e1, List.length_append]
    refine ⟨⟨by omega, by omega, by omega⟩, ?_⟩
    unfold Wk.mu
    omega
   split
   ·exact key _ rfl rfl
   ·exact key _ rfl rfl
  ·rw [if_neg c2] at he; exact absurd he c2
theorem Wk.step_fit {F : Fs} {u g : Int} {S : Wk} {name : ByteArray} {r : List ByteArray} (h : S.Fit) (hl : S.left = name :: r) (ht : ∀ id, (F.linkT id).size ≤ 100000) (he : (Wk.step F u g { S with left := r } name).1 = 0) :
  (Wk.step F u g { S with left := r } name).2.Fit ∧ (Wk.step F u g { S with left := r } name).2.mu < S.mu := by
 have hlen : S.left.length = r.length + 1 := by rw [hl]; rfl
 have hF : ({ S with left := r } : Wk).Fit := ⟨h.h0, h.h1, by have := h.l; show r.length ≤ (S.hops.toNat + 1) * 100002; omega⟩
 have hmu : ({ S with left := r } : Wk).mu < S.mu := by unfold Wk.mu; show (41 - S.hops.toNat) * 1000000 + r.length < (41 - S.hops.toNat) * 1000000 + S.left.length; omega
 have key : ∀ T : Wk, T.left = r → T.hops = S.hops → T.Fit ∧ T.mu < S.mu := fun T e1 e2 => by
  refine ⟨⟨by rw [e2]; exact h.h0, by rw [e2]; exact h.h1, by rw [e1, e2]; have := h.l; omega⟩, ?_⟩
  unfold Wk.mu
  rw [e1, e2]; omega
 unfold Wk.step at he ⊢
 split at he
 ·rename_i c1
  rw [if_pos c1]
  split at he
  ·rename_i c2; rw [if_pos c2]; exact key _ rfl rfl
  ·rename_i c2
   rw [if_neg c2]
   split at he
   ·rename_i c3; rw [if_pos c3]; exact key _ rfl rfl
   ·rename_i c3
    rw [if_neg c3]
    unfold Wk.entry at he ⊢
    split at he
    ·rename_i c4
     rw [if_pos c4]
     split at he
     ·cases he
     ·rename_i x hx
      simp only [hx]
      split at he
      ·rename_i c5
       rw [if_pos c5]
       have := Wk.link_fit hF (ht x.f1) he
       exact ⟨this.1, Nat.lt_trans this.2 hmu⟩
      ·rename_i c5
       rw [if_neg c5]
       exact key _ rfl rfl
    ·rename_i c4; exact absurd he c4
 ·rename_i c1; exact absurd he c1
end Go.Proofs.YtcbjkfhflmlniaaDoor.QVfs
end
