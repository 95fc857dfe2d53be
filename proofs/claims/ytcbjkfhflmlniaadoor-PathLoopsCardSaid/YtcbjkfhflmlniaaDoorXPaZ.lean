import Derived.Test.YtcbjkfhflmlniaaDoorXPa2
import Derived.ScopeJumps
import Derived.WalkMore
import Derived.Test.YtcbjkfhflmlniaaDoorXVf15
section
/- path: a step. -/
namespace Go.Proofs.YtcbjkfhflmlniaaDoor.QVfs
open Go.RowKit Go.Proofs.YtcbjkfhflmlniaaDoorW.PrintWords Go.Proofs.YtcbjkfhflmlniaaDoorW.PrintLast Go.Proofs.YtcbjkfhflmlniaaDoorW.PrintMore
set_option linter.unusedVariables false
set_option linter.unusedSimpArgs false

abbrev dotB : ByteArray := ⟨#[46]⟩
abbrev dotsB : ByteArray := ⟨#[46, 46]⟩
/-- It goes on by a name. -/
def Wk.step (F : Fs) (u g : Int) (S : Wk) (name : ByteArray) : Int × Wk :=
  if F.mayE u g S.id name = 0 then
    if name = dotB then (0, S.to F S.id) else if name = dotsB then (0, S.to F (F.upE S.id)) else S.entry F name
  else (F.mayE u g S.id name, S)
theorem toList_injB (s t : ByteArray) (h : s.toList = t.toList) : s = t := by
  rw [ByteArray.toList_eq, ByteArray.toList_eq] at h
  exact ByteArray.ext (Array.toList_inj.1 h)
theorem beq_no {s t : ByteArray} (h : s ≠ t) : (s.toList == t.toList) = false := by
  rw [beq_eq_false_iff_ne]; exact fun e => h (toList_injB _ _ e)
set_option maxHeartbeats 8000000 in
set_option maxRecDepth 100000 in
theorem step_done {E : Env4} {base : Nat} {ok : Nat → Prop} {F : Fs} {v : Value} {S : Wk} (name : ByteArray) (W : World) (h : WkAt E base ok F v S W) (ht : ∀ id, (F.linkT id).size ≤ 100000) (he : ∀ i, (F.at i).f1.length ≤ 100000) (hl : S.left.length ≤ 10000000) (h0 : 0 ≤ S.hops) (h1 : S.hops ≤ 1000) :
    Calls Tryd.prog 28 #[.pointer (some ⟨E.gw, 0, none⟩), .string name] W (Done E base ok F (S.step F E.uid E.gid name).2 (.int .i64 (S.step F E.uid E.gid name).1) W) := by
  have hM := may_calls name W h
  have hlt := h.lt
  by_cases hE : F.mayE E.uid E.gid S.id name = 0
  · rw [hE] at hM
    have HM := Aside0.mk hM
    have HE := Aside0.mk hE
    have HH := Aside0.mk h
    have HLT := Aside0.mk hlt
    clear hM hE hlt
    by_cases h46 : name = dotB
    · have hr : S.step F E.uid E.gid name = (0, S.to F S.id) := by unfold Wk.step; rw [if_pos HE.out, if_pos h46]
      have HR := Aside0.mk hr
      subst h46
      clear hr h HE
      obtain ⟨g, uid, gid, gw⟩ := E
      go_enter Tryd.func28, Tryd.ntmps28
      go_wp2_with fail
      refine HM.out.mono ?_
      rintro e w1 ⟨rfl, hb1⟩
      have h1 := HH.out.below hb1
      obtain ⟨c0, -, -, -, -, -, c6, -, -, -⟩ := h1.cells
      have HT := Aside0.mk (to_calls S.id w1 h1)
      have HB := Aside0.mk hb1
      clear h1 hb1
      go_wp2_with fail
      refine HT.out.mono ?_
      rintro e w2 ⟨rfl, h2, hb2⟩
      have H2 := Aside0.mk (And.intro h2 hb2)
      clear h2 hb2
      go_wp2_with fail
      go_ret
      have hlow : Below gw W w1 := below_low HB.out (by have := HLT.out; exact Nat.le_of_lt this)
      exact ⟨by rw [HR.out]; rfl, by rw [HR.out]; exact H2.out.1, hlow.trans H2.out.2⟩
    · by_cases h4646 : name = dotsB
      · have hr : S.step F E.uid E.gid name = (0, S.to F (F.upE S.id)) := by unfold Wk.step; rw [if_pos HE.out, if_neg h46, if_pos h4646]
        have HR := Aside0.mk hr
        subst h4646
        clear hr h HE h46
        obtain ⟨g, uid, gid, gw⟩ := E
        go_enter Tryd.func28, Tryd.ntmps28
        go_wp2_with fail
        refine HM.out.mono ?_
        rintro e w1 ⟨rfl, hb1⟩
        have h1 := HH.out.below hb1
        obtain ⟨c0, -, -, -, -, -, c6, -, -, -⟩ := h1.cells
        have HU : Aside0 (∀ w', Below w1.heap.size w1 w' → Calls Tryd.prog 15 #[.pointer (some ⟨g, 0, none⟩), .int .i64 S.id] w' fun e w2 => e = .returned (.int .i64 (F.upE S.id)) ∧ w' = w2) := Aside0.mk fun w' hb => up_calls g F S.id w' (h1.fs.read.below hb)
        have HT : Aside0 (∀ w', Below w1.heap.size w1 w' → Calls Tryd.prog 27 #[.pointer (some ⟨gw, 0, none⟩), .int .i64 (F.upE S.id)] w' (Done ⟨g, uid, gid, gw⟩ base ok F (S.to F (F.upE S.id)) (.tuple #[]) w')) := Aside0.mk fun w' hb => to_calls (F.upE S.id) w' (h1.below hb)
        have HB := Aside0.mk hb1
        have hlow : Aside0 (Below gw W w1) := Aside0.mk (below_low hb1 (by have := HLT.out; exact Nat.le_of_lt this))
        clear h1 hb1
        go_wp2_with fail
        go_region_with ((first | (go_at_call 15; refine (HU.out _ (by repeat (first | exact Below.refl _ _ | apply below_alloc | apply pw_below_drewN | apply below_drew1 | apply below_drew))).mono ?_; rintro e w4 ⟨rfl, rfl⟩) | (go_at_call 27; refine (HT.out _ (by repeat (first | exact Below.refl _ _ | apply below_alloc | apply pw_below_drewN | apply below_drew1 | apply below_drew))).mono ?_; rintro e w5 ⟨rfl, h5, hb5⟩)))
        all_goals
          have H5 := Aside0.mk (And.intro h5 hb5)
          clear h5 hb5
          go_wp2_with fail
          go_ret
          refine ⟨by rw [HR.out]; rfl, by rw [HR.out]; exact H5.out.1, ?_⟩
          first | exact (below_drew1 hlow.out).trans H5.out.2 | exact hlow.out.trans H5.out.2
      · have hr : S.step F E.uid E.gid name = S.entry F name := by unfold Wk.step; rw [if_pos HE.out, if_neg h46, if_neg h4646]
        have HR := Aside0.mk hr
        have b1 : (name.toList == ([46] : List UInt8)) = false := by have := beq_no h46; rwa [show dotB.toList = [46] by decide +kernel] at this
        have b2 : (name.toList == ([46, 46] : List UInt8)) = false := by have := beq_no h4646; rwa [show dotsB.toList = [46, 46] by decide +kernel] at this
        have hN : ∀ w', Below W.heap.size W w' → Calls Tryd.prog 43 #[.pointer (some ⟨E.gw, 0, none⟩), .string name] w' (Done E base ok F (S.entry F name).2 (.int .i64 (S.entry F name).1) w') := fun w' hb => entry_done name w' (HH.out.below hb) ht he hl h0 h1
        have HN := Aside0.mk hN
        clear hr h HE h46 h4646 ht he hl h0 h1 hN
        obtain ⟨g, uid, gid, gw⟩ := E
        go_enter Tryd.func28, Tryd.ntmps28
        go_wp2_with fail
        refine HM.out.mono ?_
        rintro e w1 ⟨rfl, hb1⟩
        have hlow : Aside0 (Below gw W w1) := Aside0.mk (below_low hb1 (by have := HLT.out; exact Nat.le_of_lt this))
        have HN1 := Aside0.mk (HN.out w1 hb1)
        clear hb1 HN
        go_wp2_with fail
        refine HN1.out.mono ?_
        rintro e w2 ⟨rfl, h2, hb2⟩
        have H2 := Aside0.mk (And.intro h2 hb2)
        clear h2 hb2
        go_wp2_with fail
        go_ret
        exact ⟨by rw [HR.out]; rfl, by rw [HR.out]; exact H2.out.1, hlow.out.trans H2.out.2⟩
  · have hr : S.step F E.uid E.gid name = (F.mayE E.uid E.gid S.id name, S) := by unfold Wk.step; rw [if_neg hE]
    have HR := Aside0.mk hr
    have HH := Aside0.mk h
    have HLT := Aside0.mk hlt
    have HM := Aside0.mk hM
    have b1 : (F.mayE E.uid E.gid S.id name != 0) = true := by rw [bne_iff_ne]; exact hE
    clear hr h hE hM hlt
    obtain ⟨g, uid, gid, gw⟩ := E
    simp only at *
    generalize F.mayE uid gid S.id name = er at *
    go_enter Tryd.func28, Tryd.ntmps28
    go_wp2_with fail
    refine HM.out.mono ?_
    rintro e w1 ⟨rfl, hb1⟩
    have h1 := HH.out.below hb1
    have HB := Aside0.mk (And.intro h1 hb1)
    clear h1 hb1
    go_wp2_with fail
    go_ret
    exact ⟨by rw [HR.out]; rfl, ⟨_, by rw [HR.out]; exact HB.out.1⟩, below_low HB.out.2 (by have := HLT.out; exact Nat.le_of_lt this)⟩
end Go.Proofs.YtcbjkfhflmlniaaDoor.QVfs
end

section
/- path.Walk: a scope with one label. -/
namespace Go.Proofs.YtcbjkfhflmlniaaDoor.QVfs
open Go.RowKit Go.Proofs.YtcbjkfhflmlniaaDoorW.PrintWords Go.Proofs.YtcbjkfhflmlniaaDoorW.PrintLast Go.Proofs.YtcbjkfhflmlniaaDoorW.PrintMore
set_option linter.unusedVariables false
set_option linter.unusedSimpArgs false

/-- As Q; by a goto to the label: what holds there, lower than n. -/
def Exit.one (n : Nat) (J : Nat → Act → World → Prop) (Q : Exit → Act → World → Prop) : Exit → Act → World → Prop
  | .goto l, a, w => l = 0 ∧ ∃ m, m < n ∧ J m a w
  | e, a, w => Q e a w
section
variable {n : Nat} {J : Nat → Act → World → Prop} {Q : Exit → Act → World → Prop} {a : Act} {w : World}
@[go_sem] theorem Exit.one_normal : Exit.one n J Q .normal a w = Q .normal a w := rfl
@[go_sem] theorem Exit.one_exit (id : Nat) : Exit.one n J Q (.exit id) a w = Q (.exit id) a w := rfl
@[go_sem] theorem Exit.one_ret : Exit.one n J Q .ret a w = Q .ret a w := rfl
@[go_sem] theorem Exit.one_panic (ch : List PanicEntry) : Exit.one n J Q (.panic ch) a w = Q (.panic ch) a w := rfl
theorem Exit.one_mono {m : Nat} (h : n ≤ m) (e : Exit) (a : Act) (w : World) (hq : Exit.one n J Q e a w) : Exit.one m J Q e a w := by
  cases e with
  | goto l => obtain ⟨h1, k, h2, h3⟩ := hq; exact ⟨h1, k, by omega, h3⟩
  | normal => exact hq
  | exit => exact hq
  | ret => exact hq
  | panic => exact hq
  | outgrown => exact hq
/-- A scope with one label: what holds there, and a number that every jump lowers. -/
theorem wp_scope_one {P : Program} {c r0 : Code} (N : Nat) (J : Nat → Act → World → Prop) (h0 : findLabel c 0 = some (.seq .skip r0))
    (pass0 : ∀ n a w, J n a w → r0.wp P (Exit.one n J Q) a w)
    (first : (∀ n a w, n < N → J n a w → r0.wp P (Exit.one N J Q) a w) → c.wp P (Exit.one N J Q) a w) : (Code.scope c).wp P Q a w := by
  intro b k cs
  have hg0 : gotoIn 0 (.inScope c :: k) = some (.code (.seq .skip r0) :: .inScope c :: k) := by simp [gotoIn, h0]
  have sk : ∀ {r : Code} {Q' : Exit → Act → World → Prop} {a w}, r.wp P Q' a w → (Code.seq .skip r).wp P Q' a w := fun h => wp_seq (wp_skip h)
  have key : ∀ n a w, J n a w → ∃ e a' w', Q e a' w' ∧ Arrives P (lone (b.at a (.code (.seq .skip r0) :: .inScope c :: k)) cs w) b k cs e a' w' := by
    intro n
    induction n using Nat.strongRecOn with
    | _ n ih =>
      intro a w hJ
      obtain ⟨e, a₁, w₁, hq, harr⟩ := sk (pass0 n a w hJ) b (.inScope c :: k) cs
      cases e with
      | normal => exact ⟨_, _, _, hq, Steps.trans harr (.one step_inScope)⟩
      | exit id => exact ⟨_, _, _, hq, fun k' hk => harr k' (by simp [exitTo, hk])⟩
      | goto l' =>
        obtain ⟨rfl, m, hm, hJ'⟩ := hq
        obtain ⟨e₂, a₂, w₂, hq₂, harr₂⟩ := ih m hm a₁ w₁ hJ'
        exact ⟨e₂, a₂, w₂, hq₂, .of_steps (harr _ hg0) harr₂⟩
      | ret => exact ⟨_, _, _, hq, harr⟩
      | panic ch => exact ⟨_, _, _, hq, harr⟩
      | outgrown => exact ⟨_, _, _, hq, harr⟩
  have h := first fun n a w hn hJ => wp_mono (pass0 n a w hJ) (Exit.one_mono (by omega))
  obtain ⟨e, a₁, w₁, hq, harr⟩ := h b (.inScope c :: k) cs
  cases e with
  | normal => exact ⟨.normal, a₁, w₁, hq, .head step_scope (Steps.trans harr (.one step_inScope))⟩
  | exit id => exact ⟨.exit id, a₁, w₁, hq, fun k' hk => .head step_scope (harr k' (by simp [exitTo, hk]))⟩
  | goto l' =>
    obtain ⟨rfl, m, hm, hJ'⟩ := hq
    obtain ⟨e₂, a₂, w₂, hq₂, harr₂⟩ := key _ a₁ w₁ hJ'
    exact ⟨e₂, a₂, w₂, hq₂, .of_steps (.head step_scope (harr _ hg0)) harr₂⟩
  | ret => exact ⟨_, a₁, w₁, hq, .of_steps (.one step_scope) harr⟩
  | panic ch => exact ⟨_, a₁, w₁, hq, .of_steps (.one step_scope) harr⟩
  | outgrown => exact ⟨_, a₁, w₁, hq, .of_steps (.one step_scope) harr⟩
end
/-- How a walk goes on, and ends: what is wrong, the walker. -/
inductive Walks (F : Fs) (u g : Int) : Wk → Int → Wk → Prop
  | done {S : Wk} (h : S.left = []) : Walks F u g S 0 S
  | stop {S S' : Wk} {e : Int} {name : ByteArray} {r : List ByteArray} (h : S.left = name :: r) (hs : Wk.step F u g { S with left := r } name = (e, S')) (he : e ≠ 0) : Walks F u g S e S'
  | on {S S' S2 : Wk} {e : Int} {name : ByteArray} {r : List ByteArray} (h : S.left = name :: r) (hs : Wk.step F u g { S with left := r } name = (0, S')) (hw : Walks F u g S' e S2) : Walks F u g S e S2
/-- Where a walk begins. -/
def startW (F : Fs) (path : ByteArray) (follow : Bool) : Wk := Wk.to F ⟨namesOf path, ends path, follow, 0, 0, ⟨#[]⟩, 0⟩ 0
/-- A place, in cells; none. -/
def placeV (S : Wk) : Array Value := #[.int .i64 S.id, .int .i64 S.dir, .string S.name, .int .i64 S.hops]
abbrev noPlace : Array Value := #[.int .i64 0, .int .i64 0, .string ⟨#[]⟩, .int .i64 0]
/-- What Walk answers. -/
def Fs.answer (F : Fs) (e : Int) (S : Wk) : Array Value × Int := if e = 0 then (if S.slash = true ∧ (F.nodeN S.id).f2 ≠ 2 then (noPlace, 3) else (placeV S, 0)) else (noPlace, e)
def Fs.walked (F : Fs) (u g : Int) (path : ByteArray) (follow : Bool) (r : Array Value × Int) : Prop :=
  (path.size = 0 ∧ r = (noPlace, 2)) ∨ (4096 < path.size ∧ r = (noPlace, 7)) ∨ (0 < path.size ∧ path.size ≤ 4096 ∧ ∃ e S, Walks F u g (startW F path follow) e S ∧ r = F.answer e S)
/-- Where Walk stands at its label. -/
def WaFr (g bq bp gw : Nat) (path : ByteArray) (follow : Bool) (a : Act) : Prop := ∃ u : Nat → Value, a = { tmps := #[.pointer (some ⟨g, 0, none⟩), u 1, .string path, .bool follow, u 4, .pointer (some ⟨bq, 0, none⟩), u 6, u 7, .pointer (some ⟨bp, 0, none⟩), .int .i64 0, .pointer (some ⟨gw, 0, none⟩), u 11, u 12, u 13, u 14, u 15, u 16, u 17, u 18, u 19, u 20, u 21, u 22, u 23, u 24, u 25, u 26, u 27, u 28, u 29, u 30, u 31, u 32, u 33, u 34, u 35, u 36, u 37, u 38, u 39, u 40, u 41, u 42, u 43, u 44, u 45, u 46, u 47, u 48, u 49, u 50, u 51, u 52, u 53, u 54, u 55, u 56, u 57, u 58, u 59, u 60, u 61, u 62, u 63, u 64, u 65, u 66, u 67, u 68, u 69, u 70, u 71, u 72, u 73, u 74, u 75, u 76, u 77, u 78, u 79, u 80, u 81, u 82, u 83, u 84, u 85, u 86, u 87, u 88, u 89, u 90, u 91, u 92, u 93], defers := [] }
theorem WaFr.mk' {g bq bp gw : Nat} {path : ByteArray} {follow : Bool} {x1 x4 x6 x7 x11 x12 x13 x14 x15 x16 x17 x18 x19 x20 x21 x22 x23 x24 x25 x26 x27 x28 x29 x30 x31 x32 x33 x34 x35 x36 x37 x38 x39 x40 x41 x42 x43 x44 x45 x46 x47 x48 x49 x50 x51 x52 x53 x54 x55 x56 x57 x58 x59 x60 x61 x62 x63 x64 x65 x66 x67 x68 x69 x70 x71 x72 x73 x74 x75 x76 x77 x78 x79 x80 x81 x82 x83 x84 x85 x86 x87 x88 x89 x90 x91 x92 x93 : Value} : WaFr g bq bp gw path follow { tmps := #[.pointer (some ⟨g, 0, none⟩), x1, .string path, .bool follow, x4, .pointer (some ⟨bq, 0, none⟩), x6, x7, .pointer (some ⟨bp, 0, none⟩), .int .i64 0, .pointer (some ⟨gw, 0, none⟩), x11, x12, x13, x14, x15, x16, x17, x18, x19, x20, x21, x22, x23, x24, x25, x26, x27, x28, x29, x30, x31, x32, x33, x34, x35, x36, x37, x38, x39, x40, x41, x42, x43, x44, x45, x46, x47, x48, x49, x50, x51, x52, x53, x54, x55, x56, x57, x58, x59, x60, x61, x62, x63, x64, x65, x66, x67, x68, x69, x70, x71, x72, x73, x74, x75, x76, x77, x78, x79, x80, x81, x82, x83, x84, x85, x86, x87, x88, x89, x90, x91, x92, x93], defers := [] } := ⟨fun | 1 => x1 | 4 => x4 | 6 => x6 | 7 => x7 | 11 => x11 | 12 => x12 | 13 => x13 | 14 => x14 | 15 => x15 | 16 => x16 | 17 => x17 | 18 => x18 | 19 => x19 | 20 => x20 | 21 => x21 | 22 => x22 | 23 => x23 | 24 => x24 | 25 => x25 | 26 => x26 | 27 => x27 | 28 => x28 | 29 => x29 | 30 => x30 | 31 => x31 | 32 => x32 | 33 => x33 | 34 => x34 | 35 => x35 | 36 => x36 | 37 => x37 | 38 => x38 | 39 => x39 | 40 => x40 | 41 => x41 | 42 => x42 | 43 => x43 | 44 => x44 | 45 => x45 | 46 => x46 | 47 => x47 | 48 => x48 | 49 => x49 | 50 => x50 | 51 => x51 | 52 => x52 | 53 => x53 | 54 => x54 | 55 => x55 | 56 => x56 | 57 => x57 | 58 => x58 | 59 => x59 | 60 => x60 | 61 => x61 | 62 => x62 | 63 => x63 | 64 => x64 | 65 => x65 | 66 => x66 | 67 => x67 | 68 => x68 | 69 => x69 | 70 => x70 | 71 => x71 | 72 => x72 | 73 => x73 | 74 => x74 | 75 => x75 | 76 => x76 | 77 => x77 | 78 => x78 | 79 => x79 | 80 => x80 | 81 => x81 | 82 => x82 | 83 => x83 | 84 => x84 | 85 => x85 | 86 => x86 | 87 => x87 | 88 => x88 | 89 => x89 | 90 => x90 | 91 => x91 | 92 => x92 | 93 => x93 | _ => undef, rfl⟩
/-- How much is to do at the most. -/
def Wk.mu (S : Wk) : Nat := (41 - S.hops.toNat) * 1000000 + S.left.length
structure Wk.Fit (S : Wk) : Prop where
  h0 : 0 ≤ S.hops
  h1 : S.hops ≤ 40
  l : S.left.length ≤ (S.hops.toNat + 1) * 100002
theorem Wk.to_left (F : Fs) (S : Wk) (id : Int) : (S.to F id).left = S.left ∧ (S.to F id).hops = S.hops := ⟨rfl, rfl⟩
theorem Wk.link_fit {F : Fs} {S : Wk} {id dir : Int} (h : S.Fit) (ht : (F.linkT id).size ≤ 100000) (he : (S.link F id dir).1 = 0) : (S.link F id dir).2.Fit ∧ (S.link F id dir).2.mu < S.mu := by
  have hn := namesOf_len (F.linkT id)
  obtain ⟨h0, h1, hl⟩ := h
  unfold Wk.link at he ⊢
  by_cases c : 40 < S.hops + 1
  · rw [if_pos c] at he; cases he
  · rw [if_neg c] at he ⊢
    by_cases c2 : F.linkE id = 0
    · rw [if_pos c2]
      have key : ∀ T : Wk, T.left = namesOf (F.linkT id) ++ S.left → T.hops = S.hops + 1 → T.Fit ∧ T.mu < S.mu := fun T e1 e2 => by
        have e3 : T.left.length = (namesOf (F.linkT id)).length + S.left.length := by rw [e1, List.length_append]
        refine ⟨⟨by omega, by omega, by omega⟩, ?_⟩
        unfold Wk.mu
        omega
      split
      · exact key _ rfl rfl
      · exact key _ rfl rfl
    · rw [if_neg c2] at he; exact absurd he c2
theorem Wk.step_fit {F : Fs} {u g : Int} {S : Wk} {name : ByteArray} {r : List ByteArray} (h : S.Fit) (hl : S.left = name :: r) (ht : ∀ id, (F.linkT id).size ≤ 100000) (he : (Wk.step F u g { S with left := r } name).1 = 0) :
    (Wk.step F u g { S with left := r } name).2.Fit ∧ (Wk.step F u g { S with left := r } name).2.mu < S.mu := by
  have hlen : S.left.length = r.length + 1 := by rw [hl]; rfl
  have hF : ({ S with left := r } : Wk).Fit := ⟨h.h0, h.h1, by have := h.l; show r.length ≤ (S.hops.toNat + 1) * 100002; omega⟩
  have hmu : ({ S with left := r } : Wk).mu < S.mu := by unfold Wk.mu; show (41 - S.hops.toNat) * 1000000 + r.length < (41 - S.hops.toNat) * 1000000 + S.left.length; omega
  have key : ∀ T : Wk, T.left = r → T.hops = S.hops → T.Fit ∧ T.mu < S.mu := fun T e1 e2 => by
    refine ⟨⟨by rw [e2]; exact h.h0, by rw [e2]; exact h.h1, by rw [e1, e2]; have := h.l; omega⟩, ?_⟩
    unfold Wk.mu
    rw [e1, e2]; omega
  unfold Wk.step at he ⊢
  split at he
  · rename_i c1
    rw [if_pos c1]
    split at he
    · rename_i c2; rw [if_pos c2]; exact key _ rfl rfl
    · rename_i c2
      rw [if_neg c2]
      split at he
      · rename_i c3; rw [if_pos c3]; exact key _ rfl rfl
      · rename_i c3
        rw [if_neg c3]
        unfold Wk.entry at he ⊢
        split at he
        · rename_i c4
          rw [if_pos c4]
          split at he
          · cases he
          · rename_i x hx
            simp only [hx]
            split at he
            · rename_i c5
              rw [if_pos c5]
              have := Wk.link_fit hF (ht x.f1) he
              exact ⟨this.1, Nat.lt_trans this.2 hmu⟩
            · rename_i c5
              rw [if_neg c5]
              exact key _ rfl rfl
        · rename_i c4; exact absurd he c4
  · rename_i c1; exact absurd he c1
end Go.Proofs.YtcbjkfhflmlniaaDoor.QVfs
end

section
/- path.Walk. -/
namespace Go.Proofs.YtcbjkfhflmlniaaDoor.QVfs
open Go.RowKit Go.Proofs.YtcbjkfhflmlniaaDoorW.PrintWords Go.Proofs.YtcbjkfhflmlniaaDoorW.PrintLast Go.Proofs.YtcbjkfhflmlniaaDoorW.PrintMore
set_option linter.unusedVariables false
set_option linter.unusedSimpArgs false

abbrev TPl : Nat := 44
abbrev TWho : Nat := 30
theorem infoS2 : ∃ i, Tryd.prog.info? 9 = some i ∧ i.size = 1 := by
  have h := infoS
  obtain ⟨i, hi, he⟩ := Option.map_eq_some_iff.1 h
  exact ⟨i, hi, congrArg (fun x => x.2.1) he⟩
/-- The first name that is left; the rest. -/
theorem WkAt.head {E : Env4} {base : Nat} {ok : Nat → Prop} {F : Fs} {v : Value} {S : Wk} {W : World} (h : WkAt E base ok F v S W) {name : ByteArray} {r : List ByteArray} (hl : S.left = name :: r) :
    ∃ ad L c, v = .slice (some ad) L c ∧ 0 < L ∧ W.cell? ad = some (.string name) ∧ ∃ A2 L2 c2, (∀ W', (Instr.slice 23 (.slice (some ad) L c) (some (.int .i64 1)) none none).run Tryd.prog W' = .ok (.slice A2 L2 c2) W') ∧ Kd.V Kd.string 9 W 0 (fun k => E.gw < k) (.slice A2 L2 c2) r := by
  obtain ⟨A, c, rfl⟩ := Kd.V_slice h.row
  obtain ⟨-, hc, hf⟩ := Kd.V_at h.row
  have hC := Kd.F_now hf
  obtain ⟨i, hi, hz⟩ := infoS2
  have hlen : S.left.length = r.length + 1 := by rw [hl]; rfl
  obtain ⟨ad, rfl, hcell⟩ := Kd.at_string hC 0 (by omega) (by omega)
  have hcut := cut_from (P := Tryd.prog) 23 9 .i64 Tryd.underlying23 hi 1 hz (some ad) S.left.length c 1 (by omega) (by omega)
  have hF := Kd.F_cut hf (m := 1) (by omega) hc
  refine ⟨ad, S.left.length, c, rfl, by omega, ?_, _, _, _, hcut, ?_⟩
  · have e : rdOf ByteArray.empty S.left 0 = name := by rw [hl]; rfl
    rw [e] at hcell
    have e0 : ad.add (0 : Int).toNat = ad := by cases ad; rfl
    rwa [e0] at hcell
  · have e1 : S.left.drop 1 = r := by rw [hl]; rfl
    have e2 : S.left.length - (1 : Int).toNat = r.length := by rw [hlen]; rfl
    rw [e1] at hF
    rw [e2]
    exact Kd.V_mk (by show r.length ≤ c - 1; omega) hF
theorem WkAt.cut {E : Env4} {base : Nat} {ok : Nat → Prop} {F : Fs} {v v2 : Value} {S : Wk} {W : World} (h : WkAt E base ok F v S W) {r : List ByteArray} (hV : Kd.V Kd.string 9 W 0 (fun k => E.gw < k) v2 r) : WkAt E base ok F v2 { S with left := r } (W.setCell ⟨E.gw, 3, none⟩ v2) :=
  ⟨blk_put h.blk 3 _ rfl, Kd.V_far (p := ⟨E.gw, 3, none⟩) hV (fun k hk => by show k ≠ E.gw; omega) _, h.fs.move0 (fun k hk => Below.heap_setCell W ⟨E.gw, 3, none⟩ _ k (by have := h.low k hk; show k ≠ E.gw; omega)), h.low⟩
/-- What lies below a walker: the place it will answer. -/
structure PlAt (b bp gw : Nat) (w : World) : Prop where
  blk : w.heap[bp]? = some (.cells noPlace TPl (0, 0))
  lo : b ≤ bp
  hi : bp < gw
theorem PlAt.cells {b bp gw : Nat} {w : World} (h : PlAt b bp gw w) : w.cell? ⟨bp, 0, none⟩ = some (.int .i64 0) ∧ w.cell? ⟨bp, 1, none⟩ = some (.int .i64 0) ∧ w.cell? ⟨bp, 2, none⟩ = some (.string ⟨#[]⟩) ∧ w.cell? ⟨bp, 3, none⟩ = some (.int .i64 0) :=
  ⟨blk_cell h.blk 0, blk_cell h.blk 1, blk_cell h.blk 2, blk_cell h.blk 3⟩
theorem PlAt.below {b bp gw : Nat} {w w' : World} (h : PlAt b bp gw w) (hb : Below gw w w') : PlAt b bp gw w' := ⟨(hb.block _ h.hi).trans h.blk, h.lo, h.hi⟩
theorem PlAt.put {b bp gw : Nat} {w0 w : World} (h : PlAt b bp gw w) (hb : Below b w0 w) (v0 v1 v2 v3 : Value) : Below b w0 ((((w.setCell ⟨bp, 0, none⟩ v0).setCell ⟨bp, 1, none⟩ v1).setCell ⟨bp, 2, none⟩ v2).setCell ⟨bp, 3, none⟩ v3) :=
  (((hb.setCell (p := ⟨bp, 0, none⟩) h.lo v0).setCell (p := ⟨bp, 1, none⟩) h.lo v1).setCell (p := ⟨bp, 2, none⟩) h.lo v2).setCell (p := ⟨bp, 3, none⟩) h.lo v3
/-- Where Walk stands at its label. -/
def WaJ (E : Env4) (base : Nat) (ok : Nat → Prop) (F : Fs) (b bq bp : Nat) (path : ByteArray) (follow : Bool) (S0 : Wk) (W : World) (n : Nat) (a : Act) (w : World) : Prop :=
  ∃ v S, WaFr E.g bq bp E.gw path follow a ∧ Aside0 (WkAt E base ok F v S w) ∧ n = S.mu ∧ Aside0 (S.Fit ∧ (∀ e S', Walks F E.uid E.gid S e S' → F.walked E.uid E.gid path follow (F.answer e S'))) ∧ Aside0 (PlAt b bp E.gw w ∧ Below b W w)
set_option maxHeartbeats 16000000 in
set_option maxRecDepth 100000 in
theorem walk_calls {base g : Nat} {ok : Nat → Prop} {F : Fs} (uid gid : Int) (path : ByteArray) (follow : Bool) (W : World) (h : FsAt base g ok F W) (ht : ∀ id, (F.linkT id).size ≤ 100000) (he : ∀ i, (F.at i).f1.length ≤ 100000) :
    Calls Tryd.prog 12 #[.pointer (some ⟨g, 0, none⟩), .agg #[.int .i64 uid, .int .i64 gid], .string path, .bool follow] W fun e w' => ∃ r, e = .returned (.tuple #[.agg r.1, .int .i64 r.2]) ∧ F.walked uid gid path follow r ∧ Below W.heap.size W w' := by
  have hT := h.tight
  obtain ⟨b, hb⟩ : ∃ b, b = W.heap.size := ⟨_, rfl⟩
  obtain ⟨W1, hW1⟩ : ∃ W1 : World, W1 = (W.alloc (.cells #[.int .i64 uid, .int .i64 gid] TWho)).alloc (.cells noPlace TPl) := ⟨_, rfl⟩
  have hB1 : Below b W W1 := by rw [hW1, hb]; exact ((Below.refl _ W).alloc (Nat.le_refl _) _).alloc (by simp) _
  have hs1 : W1.heap.size = b + 2 := by rw [hW1, hb]; simp
  have hP1 : PlAt b (b + 1) (b + 2) W1 := by
    refine ⟨?_, by omega, by omega⟩
    rw [hW1, hb]
    have e1 := heap_alloc_new (W.alloc (.cells #[.int .i64 uid, .int .i64 gid] TWho)) (.cells noPlace TPl)
    simp only [World.size_alloc] at e1
    exact e1
  have hq0 : W1.cell? ⟨b, 0, none⟩ = some (.int .i64 uid) ∧ W1.cell? ⟨b, 1, none⟩ = some (.int .i64 gid) := by
    have e0 : W1.heap[b]? = some (.cells #[.int .i64 uid, .int .i64 gid] TWho (0, 0)) := by
      rw [hW1, hb]
      exact (Below.heap_alloc _ _ _ (by simp)).trans (heap_alloc_new W _)
    exact ⟨blk_cell e0 0, blk_cell e0 1⟩
  obtain ⟨q0, q1⟩ := hq0
  obtain ⟨p0, p1, p2, p3⟩ := hP1.cells
  have z0 := blk_frozen hP1.blk 0
  have z1 := blk_frozen hP1.blk 1
  have z2 := blk_frozen hP1.blk 2
  have z3 := blk_frozen hP1.blk 3
  have HT := Aside0.mk (hT.below (hb ▸ hB1))
  have HP := Aside0.mk hP1
  have HB := Aside0.mk hB1
  have HS := Aside0.mk hs1
  have Hb := Aside0.mk hb
  have Hs := Aside0.mk (And.intro ht he)
  clear h hT hB1 hP1 hs1 ht he
  go_enter Tryd.func12, Tryd.ntmps12
  go_wp2
  rw [← hW1, ← hb]
  clear hW1 hb
  have hbig : ∀ {x y z : World}, Below (b + 2) x y → Below b x y := fun h => h.mono (by omega)
  refine wp_scope_one ((startW F path follow).mu + 1) (WaJ ⟨g, uid, gid, b + 2⟩ base (fun k => ok k ∧ k < W.heap.size) F b b (b + 1) path follow (startW F path follow) W) rfl ?p0 ?first
  case first =>
    intro hgo
    by_cases hz : path.size = 0
    · have e0 : path = ⟨#[]⟩ := ByteArray.ext (Array.eq_empty_of_size_eq_zero hz)
      subst e0
      clear hgo
      go_wp2_with fail
      (try simp only [Exit.one_ret])
      refine bodyPost_ret (v := .tuple #[.agg noPlace, .int .i64 2]) (by simp [results, Tryd.results12, go_sem, p0, p1, p2, p3]) rfl ⟨(noPlace, 2), rfl, .inl ⟨rfl, rfl⟩, ?_⟩
      rw [← Hb.out]
      exact HP.out.put HB.out _ _ _ _
    · have b1 : (path.toList == ([] : List UInt8)) = false := by
        have := beq_no (s := path) (t := ⟨#[]⟩) (fun e => hz (by rw [e]; rfl))
        rwa [show (⟨#[]⟩ : ByteArray).toList = [] by decide +kernel] at this
      by_cases hg : 4096 < path.size
      · clear hgo
        have n1 : (path.size : Int) > 4096 := by omega
        go_wp2_with fail
        (try simp only [Exit.one_ret])
        refine bodyPost_ret (v := .tuple #[.agg noPlace, .int .i64 7]) (by simp [results, Tryd.results12, go_sem, p0, p1, p2, p3]) rfl ⟨(noPlace, 7), rfl, .inr (.inl ⟨hg, rfl⟩), ?_⟩
        rw [← Hb.out]
        exact HP.out.put HB.out _ _ _ _
      · have n1 : ¬ ((path.size : Int) > 4096) := by omega
        have HG := Aside0.mk hgo
        clear hgo
        go_upto_region 6 with fail
        rw [show W1.heap.size = b + 2 from HS.out]
        obtain ⟨W2, hW2⟩ : ∃ W2 : World, W2 = W1.alloc (.cells (wkCells ⟨g, uid, gid, b + 2⟩ (.slice none 0 0) ⟨[], false, follow, 0, 0, ⟨#[]⟩, 0⟩) TWk) := ⟨_, rfl⟩
        have h2 : WkAt ⟨g, uid, gid, b + 2⟩ base (fun k => ok k ∧ k < W.heap.size) F (.slice none 0 0) ⟨[], false, follow, 0, 0, ⟨#[]⟩, 0⟩ W2 := by
          rw [hW2]
          refine ⟨?_, Kd.V_nil .., HT.out.below (below_al _), fun k hk => by have := Hb.out; show k < b + 2; omega⟩
          have := heap_alloc_new W1 (.cells (wkCells ⟨g, uid, gid, b + 2⟩ (.slice none 0 0) ⟨[], false, follow, 0, 0, ⟨#[]⟩, 0⟩) TWk)
          rwa [HS.out] at this
        have hB2 : Below b W W2 := by rw [hW2]; exact HB.out.alloc (by have := Hb.out; have := HS.out; omega) _
        have hP2 : PlAt b (b + 1) (b + 2) W2 := by rw [hW2]; exact HP.out.below ((Below.refl _ W1).alloc (by have := HS.out; omega) _)
        have hs2 : W2.heap.size = b + 3 := by rw [hW2]; simp; exact HS.out
        have hN := names_calls path (by omega) W2
        have H2 := Aside0.mk h2
        have HB2 := Aside0.mk hB2
        have HP2 := Aside0.mk hP2
        have HS2 := Aside0.mk hs2
        have HN := Aside0.mk hN
        rw [← hW2]
        clear hW2 h2 hB2 hP2 hs2 hN q0 q1 p0 p1 p2 p3 z0 z1 z2 z3 HB HP
        have w0 := H2.out.lt
        obtain ⟨sl, hsl⟩ : ∃ sl, sl = ends path := ⟨_, rfl⟩
        rw [← hsl] at HN
        have HSL := Aside0.mk hsl
        clear hsl
        go_wp2_with fail
        refine HN.out.mono ?_
        rintro e w3 ⟨vn, rfl, hRn, hb3⟩
        have h3 := H2.out.below hb3
        have hV3 : Kd.V Kd.string 9 w3 0 (fun k => b + 2 < k) vn (namesOf path) := Kd.R_V (base' := 0) (Kd.R_mono (Kd.R_bound hRn) (fun k hk => by have := hk.2.1; have := HS2.out; show b + 2 < k; omega))
        obtain ⟨A, c, hvn⟩ := Kd.V_slice hV3
        obtain ⟨L, hL⟩ : ∃ L, L = (namesOf path).length := ⟨_, rfl⟩
        rw [← hL] at hvn
        subst hvn
        clear hL
        obtain ⟨-, -, -, c3, c4, -, -, -, -, -⟩ := h3.cells
        have z3 := h3.marks 3
        have z4 := h3.marks 4
        have h5 : WkAt ⟨g, uid, gid, b + 2⟩ base (fun k => ok k ∧ k < W.heap.size) F (.slice A L c) ⟨namesOf path, sl, follow, 0, 0, ⟨#[]⟩, 0⟩ ((w3.setCell ⟨b + 2, 3, none⟩ (.slice A L c)).setCell ⟨b + 2, 4, none⟩ (.bool sl)) := (h3.cut hV3).put 4 _ rfl rfl
        have hB5 : Below (b + 2) W2 ((w3.setCell ⟨b + 2, 3, none⟩ (.slice A L c)).setCell ⟨b + 2, 4, none⟩ (.bool sl)) := ((hb3.mono (by have := HS2.out; omega) : Below (b + 2) W2 w3).setCell (p := ⟨b + 2, 3, none⟩) (Nat.le_refl _) _).setCell (p := ⟨b + 2, 4, none⟩) (Nat.le_refl _) _
        have H5 := Aside0.mk h5
        have HB5 := Aside0.mk hB5
        clear hRn hb3 h3 hV3 h5 hB5 HN
        go_wp2_with fail
        refine (to_calls 0 _ H5.out).mono ?_
        rintro e w6 ⟨rfl, ⟨v6, h6⟩, hb6⟩
        have H6 := Aside0.mk h6
        have HB6 := Aside0.mk (HB5.out.trans hb6)
        clear h6 hb6 c3 c4 z3 z4 H5 HB5
        go_wp2_with fail
        rename_i hK
        go_step3
        have hN : namesOf path = (startW F path follow).left := rfl
        have hl := namesOf_len path
        have hS : (Wk.to F ⟨namesOf path, sl, follow, 0, 0, ⟨#[]⟩, 0⟩ 0) = startW F path follow := by rw [HSL.out]; rfl
        refine hK _ _ (HG.out (startW F path follow).mu _ _ (by omega) ⟨v6, startW F path follow, WaFr.mk', ⟨hS ▸ H6.out⟩, rfl, ⟨⟨Int.le_refl 0, (by show (0 : Int) ≤ 40; omega), ?_⟩, fun e S' h => .inr (.inr ⟨by omega, by omega, e, S', h, rfl⟩)⟩, ⟨HP2.out.below HB6.out, HB2.out.trans (HB6.out.mono (by omega))⟩⟩)
        show (namesOf path).length ≤ ((0 : Int).toNat + 1) * 100002
        omega
  case p0 =>
    rintro n a wr ⟨v, S, ⟨u, rfl⟩, HW, rfl, HF, HPB⟩
    have ht := Hs.out.1
    have he := Hs.out.2
    clear q0 q1 p0 p1 p2 p3 z0 z1 z2 z3 HB HP HT HS
    obtain ⟨p0, p1, p2, p3⟩ := HPB.out.1.cells
    have z0 := blk_frozen HPB.out.1.blk 0
    have z1 := blk_frozen HPB.out.1.blk 1
    have z2 := blk_frozen HPB.out.1.blk 2
    have z3 := blk_frozen HPB.out.1.blk 3
    have hfin : ∀ e S', Walks F uid gid S e S' → F.walked uid gid path follow (F.answer e S') := HF.out.2
    cases hl : S.left with
    | cons name r =>
      obtain ⟨ad, L, c, rfl, hL, hcell, A2, L2, c2, hcut, hV2⟩ := HW.out.head hl
      obtain ⟨-, -, -, c3, -, -, -, -, -, -⟩ := HW.out.cells
      have y3 := HW.out.marks 3
      have n1 : (L : Int) > 0 := by omega
      have n2 : (0 : Int) < (L : Int) := by omega
      have h1 := HW.out.cut hV2
      have hP1 : PlAt b (b + 1) (b + 2) (wr.setCell ⟨b + 2, 3, none⟩ (.slice A2 L2 c2)) := HPB.out.1.below ((Below.refl _ wr).setCell (p := ⟨b + 2, 3, none⟩) (Nat.le_refl _) _)
      have hB1 : Below b W (wr.setCell ⟨b + 2, 3, none⟩ (.slice A2 L2 c2)) := HPB.out.2.setCell (p := ⟨b + 2, 3, none⟩) (by show b ≤ b + 2; omega) _
      have hf := HF.out.1
      have hS := step_done name _ h1 ht he (by have := hf.l; have := hf.h0; have := hf.h1; have h2 : S.left.length = r.length + 1 := by rw [hl]; rfl
                                               show r.length ≤ 10000000; omega) hf.h0 (by have := hf.h1; show S.hops ≤ 1000; omega)
      have HS := Aside0.mk hS
      have H1 := Aside0.mk (And.intro hP1 hB1)
      clear h1 hP1 hB1 hf hS hV2
      go_wp2_with fail
      obtain ⟨e1, he1⟩ : ∃ e1, e1 = (Wk.step F uid gid { S with left := r } name).1 := ⟨_, rfl⟩
      obtain ⟨S1, hS1⟩ : ∃ S1, S1 = (Wk.step F uid gid { S with left := r } name).2 := ⟨_, rfl⟩
      have HE := Aside0.mk (show Wk.step F uid gid { S with left := r } name = (e1, S1) by rw [he1, hS1])
      have HS2 : Aside0 (Calls Tryd.prog 28 #[.pointer (some ⟨b + 2, 0, none⟩), .string name] (wr.setCell ⟨b + 2, 3, none⟩ (.slice A2 L2 c2)) (Done ⟨g, uid, gid, b + 2⟩ base (fun k => ok k ∧ k < W.heap.size) F S1 (.int .i64 e1) (wr.setCell ⟨b + 2, 3, none⟩ (.slice A2 L2 c2)))) := Aside0.mk (by rw [he1, hS1]; exact HS.out)
      clear HS he1 hS1 c3 y3 hcut hcell p0 p1 p2 p3 z0 z1 z2 z3
      refine HS2.out.mono ?_
      rintro e w2 ⟨rfl, ⟨v2, h2⟩, hb2⟩
      have HP2 := Aside0.mk (And.intro (H1.out.1.below hb2) (H1.out.2.trans (hb2.mono (by show b ≤ b + 2; omega))))
      have H2 := Aside0.mk h2
      clear h2 hb2 H1 HS2
      by_cases h0 : e1 = 0
      · subst h0
        have hfit := Wk.step_fit HF.out.1 hl ht (congrArg Prod.fst HE.out)
        rw [HE.out] at hfit
        have hW : ∀ e S', Walks F uid gid S1 e S' → F.walked uid gid path follow (F.answer e S') := fun e S' hw => hfin e S' (.on hl HE.out hw)
        have HX := Aside0.mk (And.intro hfit hW)
        clear hfit hW hfin ht he
        go_wp2_with fail
        go_step3
        exact ⟨rfl, S1.mu, HX.out.1.2, v2, S1, WaFr.mk', H2, rfl, ⟨HX.out.1.1, HX.out.2⟩, HP2⟩
      · have b1 : (e1 != 0) = true := by rw [bne_iff_ne]; exact h0
        have HX := Aside0.mk (hfin e1 S1 (.stop hl HE.out h0))
        have HA : Aside0 (F.answer e1 S1 = (noPlace, e1)) := Aside0.mk (by unfold Fs.answer; rw [if_neg h0])
        clear hfin h0 ht he
        obtain ⟨p0, p1, p2, p3⟩ := HP2.out.1.cells
        have z0 := blk_frozen HP2.out.1.blk 0
        have z1 := blk_frozen HP2.out.1.blk 1
        have z2 := blk_frozen HP2.out.1.blk 2
        have z3 := blk_frozen HP2.out.1.blk 3
        go_wp2_with fail
        (try simp only [Exit.one_ret])
        refine bodyPost_ret (v := .tuple #[.agg noPlace, .int .i64 e1]) (by simp [results, Tryd.results12, go_sem, p0, p1, p2, p3]) rfl ⟨(noPlace, e1), rfl, (HA.out ▸ HX.out), ?_⟩
        rw [← Hb.out]
        exact HP2.out.1.put HP2.out.2 _ _ _ _
    | nil =>
      obtain ⟨A, c, rfl⟩ := Kd.V_slice HW.out.row
      have hlen : S.left.length = 0 := by rw [hl]; rfl
      rw [hlen] at HW
      have HX := Aside0.mk (hfin 0 S (.done hl))
      clear hfin ht he hlen hl HF
      have HN : Aside0 (∀ w', Below wr.heap.size wr w' → Calls Tryd.prog 13 #[.pointer (some ⟨g, 0, none⟩), .int .i64 S.id] w' fun e w2 => e = .returned (.tuple #[.agg (encN (F.nodeN S.id)).toArray, .int .i64 (F.nodeE S.id)]) ∧ Below w'.heap.size w' w2) := Aside0.mk fun w' hb => node_calls g F S.id w' (HW.out.fs.read.below hb)
      obtain ⟨R, hR⟩ : ∃ R, R = F.answer 0 S := ⟨_, rfl⟩
      rw [← hR] at HX
      have hR2 : R = (if S.slash = true ∧ (F.nodeN S.id).f2 ≠ 2 then (noPlace, 3) else (placeV S, 0)) := by rw [hR]; unfold Fs.answer; rw [if_pos rfl]
      clear hR
      generalize F.nodeN S.id = n at *
      generalize F.nodeE S.id = x at *
      have HR := Aside0.mk hR2
      clear hR2
      obtain ⟨c0, -, -, c3, c4, -, c6, c7, c8, c9⟩ := HW.out.cells
      have hlt : b + 2 < wr.heap.size := HW.out.lt
      unfold encN at HN
      clear p0 p1 p2 p3 z0 z1 z2 z3
      go_upto_region 14 with fail
      go_cut [13] (fun s5 wx => ∃ gb : Nat, s5 = .pointer (some ⟨gb, 0, none⟩) ∧ wx.heap[gb]? = some (.cells (encN n).toArray 50 (0, 0)) ∧ Below wr.heap.size wr wx)
      case first =>
        have n0 : b + 2 ≠ wr.heap.size := by have := hlt; omega
        go_wp2_with fail
        refine (HN.out _ (Below.refl _ _)).mono ?_
        rintro e w2 ⟨rfl, hb2⟩
        obtain ⟨bc2, bf2, bz2⟩ := bcell hb2
        go_wp2_with fail
        go_meet
        refine ⟨_, rfl, ?_⟩
        with_reducible refine node_one ?_ hb2
        exact Below.refl _ wr
      case rest =>
        obtain ⟨gb, rfl, hblk, hB⟩ := hcut
        have q2 : wc.cell? ⟨gb, 2, none⟩ = some (.int .i64 n.f2) := (blk_cell hblk 2).trans rfl
        have hW := HW.out.below hB
        have hP : PlAt b (b + 1) (b + 2) wc ∧ Below b W wc := by
          have hl2 : b + 2 ≤ wr.heap.size := by have := hlt; omega
          have h2 : Below (b + 2) wr wc := below_low hB hl2
          exact ⟨HPB.out.1.below h2, HPB.out.2.trans (h2.mono (by omega))⟩
        have HP := Aside0.mk hP
        clear hB hblk HN HW HPB c0 c3 c4 c6 c7 c8 c9 hlt hP
        obtain ⟨c0, -, -, c3, c4, -, c6, c7, c8, c9⟩ := hW.cells
        clear hW
        obtain ⟨p0, p1, p2, p3⟩ := HP.out.1.cells
        have z0 := blk_frozen HP.out.1.blk 0
        have z1 := blk_frozen HP.out.1.blk 1
        have z2 := blk_frozen HP.out.1.blk 2
        have z3 := blk_frozen HP.out.1.blk 3
        have fin0 : ∀ sl, S.slash = sl → (sl = true → (n.f2 != 2) = false) → (R = (placeV S, 0)) := fun sl h1 h2 => by
          rw [HR.out, if_neg]
          rintro ⟨h3, h4⟩
          have := h2 (h1.symm.trans h3)
          rw [bne_eq_false_iff_eq] at this
          exact h4 this
        by_cases hsl : S.slash = true
        · rw [hsl] at c4
          by_cases hk : n.f2 = 2
          · have b1 : (n.f2 != 2) = false := by rw [hk]; rfl
            have HF2 := Aside0.mk (fin0 true hsl (fun _ => b1))
            clear hk hsl fin0
            go_wp2_with fail
            (try simp only [Exit.one_ret])
            refine bodyPost_ret (v := .tuple #[.agg (placeV S), .int .i64 0]) (by simp [results, Tryd.results12, go_sem, p0, p1, p2, p3, placeV]) rfl ⟨R, by rw [HF2.out], HX.out, ?_⟩
            rw [← Hb.out]
            exact HP.out.1.put HP.out.2 _ _ _ _
          · have b1 : (n.f2 != 2) = true := by rw [bne_iff_ne]; exact hk
            have HF2 : Aside0 (R = (noPlace, 3)) := Aside0.mk (by rw [HR.out, if_pos ⟨hsl, hk⟩])
            clear hk hsl fin0
            go_wp2_with fail
            (try simp only [Exit.one_ret])
            refine bodyPost_ret (v := .tuple #[.agg noPlace, .int .i64 3]) (by simp [results, Tryd.results12, go_sem, p0, p1, p2, p3]) rfl ⟨R, by rw [HF2.out], HX.out, ?_⟩
            rw [← Hb.out]
            exact HP.out.1.put HP.out.2 _ _ _ _
        · have hsl0 : S.slash = false := by cases h : S.slash; rfl; exact absurd h hsl
          rw [hsl0] at c4
          have HF2 := Aside0.mk (fin0 false hsl0 (fun h => by cases h))
          clear hsl hsl0 fin0
          go_wp2_with fail
          (try simp only [Exit.one_ret])
          refine bodyPost_ret (v := .tuple #[.agg (placeV S), .int .i64 0]) (by simp [results, Tryd.results12, go_sem, p0, p1, p2, p3, placeV]) rfl ⟨R, by rw [HF2.out], HX.out, ?_⟩
          rw [← Hb.out]
          exact HP.out.1.put HP.out.2 _ _ _ _
end Go.Proofs.YtcbjkfhflmlniaaDoor.QVfs
end

section
/- PathLoops: what the links' chain answers, reckoned. -/
namespace Go.Proofs.YtcbjkfhflmlniaaDoor.QVfs
open Go.RowKit Go.Proofs.YtcbjkfhflmlniaaDoorW.PrintWords Go.Proofs.YtcbjkfhflmlniaaDoorW.PrintLast Go.Proofs.YtcbjkfhflmlniaaDoorW.PrintMore
set_option linter.unusedVariables false
set_option linter.unusedSimpArgs false

/-- A link's name. -/
def nm (k : Nat) : ByteArray := if k < 10 then ⟨#[108, UInt8.ofNat (48 + k)]⟩ else ⟨#[108, UInt8.ofNat (48 + k / 10), UInt8.ofNat (48 + k % 10)]⟩
abbrev chg0 : Chg := ⟨1, 0, 0, ⟨#[108, 48]⟩, ⟨#[]⟩, 0, 0, 0⟩
abbrev chgL (k : Nat) : Chg := ⟨3, 0, 0, nm (k + 1), nm k, 0, 0, 0⟩
/-- The file system with k links. -/
def loopF : Nat → Fs
  | 0 => Fs.new.doF chg0
  | k + 1 => (loopF k).doF (chgL k)
/-- The walk, reckoned. -/
def walkB (F : Fs) (u g : Int) : Nat → Wk → Option (Int × Wk)
  | 0, _ => none
  | n + 1, S => match S.left with
    | [] => some (0, S)
    | name :: r => if (Wk.step F u g { S with left := r } name).1 = 0 then walkB F u g n (Wk.step F u g { S with left := r } name).2 else some (Wk.step F u g { S with left := r } name)
theorem walkB_only {F : Fs} {u g : Int} {n : Nat} {S S1 : Wk} {e1 : Int} (h : walkB F u g n S = some (e1, S1)) : ∀ {e : Int} {S2 : Wk}, Walks F u g S e S2 → e = e1 ∧ S2 = S1 := by
  intro e S2 hw
  induction hw generalizing n with
  | done hl =>
    cases n with
    | zero => cases h
    | succ n => simp only [walkB, hl] at h; injection h with h; injection h with h1 h2; exact ⟨h1, h2⟩
  | stop hl hs he =>
    cases n with
    | zero => cases h
    | succ n => simp only [walkB, hl, hs] at h; rw [if_neg he] at h; injection h with h; injection h with h1 h2; exact ⟨h1, h2⟩
  | on hl hs hw ih =>
    cases n with
    | zero => cases h
    | succ n => simp only [walkB, hl, hs] at h; exact ih h
def small (F : Fs) : Bool := F.I.all fun x => decide (x.f0.f10.size ≤ 100000)
/-- What Walk must answer at k links. -/
def loopsOk (k : Nat) : Bool := match walkB (loopF k) 0 0 100 (startW (loopF k) (nm k) true) with
  | some (e, S) => if 40 < k then decide (e = 6) else decide (e = 0 ∧ S.id = 1 ∧ S.hops = k ∧ S.name = (⟨#[108, 48]⟩ : ByteArray) ∧ S.slash = false)
  | none => false
set_option maxRecDepth 100000 in
theorem loops_all : ∀ k, k < 60 → (loopsOk k = true ∧ small (loopF k) = true) := by decide +kernel
theorem small_link {F : Fs} (h : small F = true) (id : Int) : (F.linkT id).size ≤ 100000 := by
  unfold Fs.linkT
  split
  · rename_i hh
    split
    · split
      · exact Nat.zero_le _
      · have h2 := of_decide_eq_true hh
        rw [Fs.it_nat F h2.1]
        unfold Fs.at
        have hl : id.toNat < F.I.length := by omega
        rw [List.getD_eq_getElem?_getD, List.getElem?_eq_getElem hl]
        exact of_decide_eq_true (List.all_eq_true.1 h _ (List.getElem_mem hl))
    · exact Nat.zero_le _
  · exact Nat.zero_le _
theorem loopF_ok : ∀ k, (loopF k).Ok (k + 1)
  | 0 => Fs.new_ok.step chg0
  | k + 1 => (loopF_ok k).step (chgL k)
theorem loopF_small {k : Nat} (h : k < 60) : (∀ id, ((loopF k).linkT id).size ≤ 100000) ∧ ∀ i, ((loopF k).at i).f1.length ≤ 100000 :=
  ⟨small_link (loops_all k h).2, fun i => Nat.le_trans ((loopF_ok k).at_ent i) (by omega)⟩
/-- What Walk answers at k links. -/
theorem loops_say {k : Nat} (hk : k < 60) {r : Array Value × Int} (h : (loopF k).walked 0 0 (nm k) true r) : if 40 < k then r = (noPlace, 6) else (r.2 = 0 ∧ ∃ d : Int, r.1 = #[.int .i64 1, .int .i64 d, .string ⟨#[108, 48]⟩, .int .i64 k]) := by
  have hn : (nm k).size = 2 ∨ (nm k).size = 3 := by unfold nm; split; exact .inl rfl; exact .inr rfl
  rcases h with ⟨h, -⟩ | ⟨h, -⟩ | ⟨-, -, e, S, hw, rfl⟩
  · omega
  · omega
  · have hl := (loops_all k hk).1
    unfold loopsOk at hl
    cases hx : walkB (loopF k) 0 0 100 (startW (loopF k) (nm k) true) with
    | none => rw [hx] at hl; cases hl
    | some p =>
      obtain ⟨e1, S1⟩ := p
      obtain ⟨rfl, rfl⟩ := walkB_only hx hw
      rw [hx] at hl
      simp only at hl
      by_cases c : 40 < k
      · rw [if_pos c] at hl ⊢
        obtain rfl := of_decide_eq_true hl
        rfl
      · rw [if_neg c] at hl ⊢
        obtain ⟨rfl, h1, h2, h3, h4⟩ := of_decide_eq_true hl
        unfold Fs.answer
        rw [if_pos rfl, if_neg (by rw [h4]; rintro ⟨h, -⟩; cases h)]
        exact ⟨rfl, S.dir, by unfold placeV; rw [h1, h2, h3]⟩
end Go.Proofs.YtcbjkfhflmlniaaDoor.QVfs
end

section
/- PathLoops: the law's own functions. -/
namespace Go.Proofs.YtcbjkfhflmlniaaDoor.QVfs
open Go.RowKit Go.Proofs.YtcbjkfhflmlniaaDoorW.PrintWords Go.Proofs.YtcbjkfhflmlniaaDoorW.PrintLast Go.Proofs.YtcbjkfhflmlniaaDoorW.PrintMore
set_option linter.unusedVariables false
set_option linter.unusedSimpArgs false

theorem awake_len : (namesOf ⟨#[47, 97, 47, 47, 98, 47]⟩).length = 2 ∧ begins ⟨#[47, 97, 47, 47, 98, 47]⟩ = true ∧ ends ⟨#[47, 97, 47, 47, 98, 47]⟩ = true := by decide +kernel
set_option maxHeartbeats 4000000 in
set_option maxRecDepth 100000 in
theorem awake_calls (w : World) : Calls Tryd.prog 7 #[] w fun e w' => e = .returned (.bool true) ∧ Below w.heap.size w w' := by
  have hN := names_calls ⟨#[47, 97, 47, 47, 98, 47]⟩ (by decide) w
  obtain ⟨hl, h1, h2⟩ := awake_len
  rw [h1, h2] at hN
  have HN := Aside0.mk hN
  have HL := Aside0.mk hl
  clear hN hl h1 h2
  go_enter Tryd.func7, Tryd.ntmps7
  go_wp2_with fail
  refine HN.out.mono ?_
  rintro e w1 ⟨v, rfl, hR, hb⟩
  obtain ⟨A, c, rfl⟩ := Kd.R_slice hR
  rw [HL.out]
  have HB := Aside0.mk hb
  clear hR hb HN
  go_wp2_with fail
  go_ret
  exact ⟨rfl, HB.out⟩
theorem cat2 (x : UInt8) : ((⟨#[108]⟩ : ByteArray) ++ ⟨#[x]⟩) = ⟨#[108, x]⟩ := by
  apply ByteArray.ext; simp [ByteArray.data_append]
theorem cat3 (x y : UInt8) : ((⟨#[108]⟩ : ByteArray) ++ ⟨#[x, y]⟩) = ⟨#[108, x, y]⟩ := by
  apply ByteArray.ext; simp [ByteArray.data_append]
theorem run_conv1 (wr : World) (k : Int) (u : UInt8) (e0 : (u.toNat : Int) = 48 + k) :
    (convert 83 9 (.slice (some ⟨wr.heap.size, 0, none⟩) 1 1)).run Tryd.prog (wr.alloc (.cells #[.int .u8 (48 + k)] 5)) = .ok (.string ⟨#[u]⟩) (wr.alloc (.cells #[.int .u8 (48 + k)] 5)) := by
  have hb := heap_alloc_new wr (.cells #[.int .u8 (48 + k)] 5)
  refine run_convert_bytes_back _ 83 9 5 ⟨wr.heap.size, 0, none⟩ 1 [u] Tryd.underlying83 Tryd.underlying5 Tryd.underlying9 ?_
  intro j hj
  match j, hj with
  | 0, _ => show World.cell? _ _ = some (.int .u8 (u.toNat : Int)); rw [e0]; exact (blk_cell hb 0).trans rfl
theorem run_conv2 (wr : World) (a b : Int) (u v : UInt8) (e0 : (u.toNat : Int) = 48 + a) (e1 : (v.toNat : Int) = 48 + b) :
    (convert 83 9 (.slice (some ⟨wr.heap.size, 0, none⟩) 2 2)).run Tryd.prog (wr.alloc (.cells #[.int .u8 (48 + a), .int .u8 (48 + b)] 5)) = .ok (.string ⟨#[u, v]⟩) (wr.alloc (.cells #[.int .u8 (48 + a), .int .u8 (48 + b)] 5)) := by
  have hh := heap_alloc_new wr (.cells #[.int .u8 (48 + a), .int .u8 (48 + b)] 5)
  refine run_convert_bytes_back _ 83 9 5 ⟨wr.heap.size, 0, none⟩ 2 [u, v] Tryd.underlying83 Tryd.underlying5 Tryd.underlying9 ?_
  intro j hj
  match j, hj with
  | 0, _ => show World.cell? _ _ = some (.int .u8 (u.toNat : Int)); rw [e0]; exact (blk_cell hh 0).trans rfl
  | 1, _ => show World.cell? _ _ = some (.int .u8 (v.toNat : Int)); rw [e1]; exact (blk_cell hh 1).trans rfl
theorem w64 (x : Int) (h0 : 0 ≤ x) (h1 : x ≤ 1000) : IntKind.i64.wrap x = x := by
  simp only [IntKind.wrap, IntKind.bits, IntKind.signed]
  first | omega | (simp; omega)
theorem w64' (x : Int) (h0 : 0 ≤ x) (h1 : x ≤ 1000) : wrap64 x = x := by
  unfold wrap64; omega
theorem w8 (x : Int) (h0 : 0 ≤ x) (h1 : x ≤ 255) : IntKind.u8.wrap x = x := by
  show x % 256 = x
  omega
set_option maxHeartbeats 4000000 in
set_option maxRecDepth 100000 in
theorem name_calls (i : Nat) (hi : i < 100) (w : World) : Calls Tryd.prog 18 #[.int .i64 i] w fun e w' => e = .returned (.string (nm i)) ∧ Below w.heap.size w w' := by
  by_cases c : i < 10
  · have d1 : decide ((i : Int) < 10) = true := decide_eq_true (by omega)
    obtain ⟨u, hu⟩ : ∃ u, u = UInt8.ofNat (48 + i) := ⟨_, rfl⟩
    have hc := run_conv1 w i u (by rw [hu, UInt8.toNat_ofNat']; omega)
    have hn : nm i = ⟨#[108]⟩ ++ ⟨#[u]⟩ := by unfold nm; rw [if_pos c, cat2, hu]
    have e1 := w64 (48 + (i : Int)) (by omega) (by omega)
    have e2 := w8 (48 + (i : Int)) (by omega) (by omega)
    rw [hn]
    clear hn hu
    go_enter Tryd.func18, Tryd.ntmps18
    go_wp2_with fail
    go_ret
    exact ⟨rfl, below_al _⟩
  · have d1 : decide ((i : Int) < 10) = false := decide_eq_false (by omega)
    obtain ⟨u, hu⟩ : ∃ u, u = UInt8.ofNat (48 + i / 10) := ⟨_, rfl⟩
    obtain ⟨v, hv⟩ : ∃ v, v = UInt8.ofNat (48 + i % 10) := ⟨_, rfl⟩
    have hn : nm i = ⟨#[108]⟩ ++ ⟨#[u, v]⟩ := by unfold nm; rw [if_neg c, cat3, hu, hv]
    have hu' : (u.toNat : Int) = 48 + ((i / 10 : Nat) : Int) := by rw [hu, UInt8.toNat_ofNat']; omega
    have hv' : (v.toNat : Int) = 48 + ((i % 10 : Nat) : Int) := by rw [hv, UInt8.toNat_ofNat']; omega
    obtain ⟨a, ha⟩ : ∃ a : Int, a = ((i / 10 : Nat) : Int) := ⟨_, rfl⟩
    obtain ⟨b, hb⟩ : ∃ b : Int, b = ((i % 10 : Nat) : Int) := ⟨_, rfl⟩
    rw [← ha] at hu'
    rw [← hb] at hv'
    have hc := run_conv2 w a b u v hu' hv'
    have q1 : (i : Int).tdiv 10 = a := by rw [ha, Int.tdiv_eq_ediv_of_nonneg (by omega)]; omega
    have q2 : (i : Int).tmod 10 = b := by rw [hb, Int.tmod_eq_emod_of_nonneg (by omega)]; omega
    have q3 : wrap64 a = a := w64' a (by omega) (by omega)
    have q4 : wrap64 b = b := w64' b (by omega) (by omega)
    have e1 := w64 (48 + a) (by omega) (by omega)
    have e2 := w8 (48 + a) (by omega) (by omega)
    have e3 := w64 (48 + b) (by omega) (by omega)
    have e4 := w8 (48 + b) (by omega) (by omega)
    rw [hn]
    clear hn hu hv ha hb hu' hv'
    go_enter Tryd.func18, Tryd.ntmps18
    go_wp2_with fail
    go_ret
    exact ⟨rfl, below_al _⟩
end Go.Proofs.YtcbjkfhflmlniaaDoor.QVfs
end

section
/- PathLoops: the walk of the law. -/
namespace Go.Proofs.YtcbjkfhflmlniaaDoor.QVfs
open Go.RowKit Go.Proofs.YtcbjkfhflmlniaaDoorW.PrintWords Go.Proofs.YtcbjkfhflmlniaaDoorW.PrintLast Go.Proofs.YtcbjkfhflmlniaaDoorW.PrintMore
set_option linter.unusedVariables false
set_option linter.unusedSimpArgs false

set_option maxHeartbeats 16000000 in
set_option maxRecDepth 100000 in
theorem loops_calls (v : Int) (h0 : 0 ≤ v) (h1 : v ≤ 255) (w : World) : Calls Tryd.prog 6 #[.int .u8 v] w fun e w' => e = .returned (.bool true) ∧ Below w.heap.size w w' := by
  obtain ⟨k, hk⟩ : ∃ k : Nat, k = (v % 60).toNat := ⟨_, rfl⟩
  have q1 : v.tmod 60 = (k : Int) := by rw [Int.tmod_eq_emod_of_nonneg h0]; omega
  have hk60 : k < 60 := by omega
  have q2 := w8 (k : Int) (by omega) (by omega)
  have q3 := w64 (k : Int) (by omega) (by omega)
  clear hk
  go_enter Tryd.func6, Tryd.ntmps6
  go_wp2_with fail
  refine (awake_calls w).mono ?_
  rintro e w1 ⟨rfl, h1⟩
  have HB1 := Aside0.mk h1
  clear h1
  go_wp2_with fail
  refine (new_calls w1).mono ?_
  rintro e w2 ⟨rfl, h2, k2⟩
  obtain ⟨g, hg⟩ : ∃ g, g = w1.heap.size := ⟨_, rfl⟩
  rw [← hg] at h2 k2 ⊢
  have HG := Aside0.mk hg
  clear hg
  have HF2 := Aside0.mk h2
  have HK2 := Aside0.mk k2
  clear h2 k2
  have hb12 : Below w.heap.size w w2 := below_step HB1.out (by rw [← HG.out]; exact HK2.out)
  have hgw : w.heap.size ≤ g := by rw [HG.out]; exact HB1.out.size
  have HB := Aside0.mk hb12
  have HGW := Aside0.mk hgw
  clear hb12 hgw
  go_wp2_with fail
  refine (do_calls (c := chg0) Fs.new_ok (by decide) HF2.out (by decide) (by decide)).mono ?_
  rintro e w3 ⟨rfl, h3, k3⟩
  have HF3 : Aside0 (FsAt g g (fun k => g ≤ k) (loopF 0) w3) := Aside0.mk (FsAt.weak h3 (fun k hk => hk.elim id (fun h => Nat.le_trans (by rw [HG.out]; exact HK2.out.size) h)))
  have hb3 : Below g w2 w3 := k3.under (fun k hk => by omega) (by rw [HG.out]; exact HK2.out.size)
  have HB3 := Aside0.mk (HB.out.trans (hb3.mono HGW.out))
  have HS3 : Aside0 (g ≤ w3.heap.size) := Aside0.mk (Nat.le_trans (by rw [HG.out]; exact HK2.out.size) hb3.size)
  clear h3 k3 hb3 HF2 HK2 HB
  go_wp2
  go_loopw [5] (fun v5 wr => ∃ i : Nat, v5 = .int .i64 i ∧ 1 ≤ i ∧ i ≤ k + 1 ∧ Aside0 (Below w.heap.size w wr) ∧ Aside0 (g ≤ wr.heap.size) ∧ Aside0 (FsAt g g (fun k => g ≤ k) (loopF (i - 1)) wr)) (fun v5 _ => k + 1 - (intOf v5).toNat)
  case atStart => exact ⟨1, rfl, Nat.le_refl _, by omega, HB3, HS3, HF3⟩
  case round =>
    obtain ⟨i, rfl, hi1, hik, HBr, HSr, HFr⟩ := hrel
    clear HB3 HS3 HF3
    by_cases hlt : i ≤ k
    · have d1 : decide ((i : Int) ≤ (k : Int)) = true := decide_eq_true (by omega)
      obtain ⟨j, hj⟩ : ∃ j, i = j + 1 := ⟨i - 1, by omega⟩
      have hsub : (i : Int) - 1 = (j : Int) := by omega
      have s1 := w64 (j : Int) (by omega) (by omega)
      have s2 := w64' (j : Int) (by omega) (by omega)
      have hF : FsAt g g (fun k => g ≤ k) (loopF j) wr := by have := HFr.out; rwa [show i - 1 = j by omega] at this
      have HF := Aside0.mk hF
      have HJ := Aside0.mk hj
      clear hF hj HFr
      go_wp2_with fail
      refine (name_calls i (by omega) wr).mono ?_
      rintro e w4 ⟨rfl, hb4⟩
      have HF4 := Aside0.mk (HF.out.below hb4)
      have HB4 := Aside0.mk (below_step HBr.out hb4)
      have HS4 : Aside0 (g ≤ w4.heap.size) := Aside0.mk (Nat.le_trans HSr.out hb4.size)
      clear hb4 HF HBr HSr
      go_wp2_with fail
      refine (name_calls j (by omega) w4).mono ?_
      rintro e w5 ⟨rfl, hb5⟩
      have HF5 := Aside0.mk (HF4.out.below hb5)
      have HB5 := Aside0.mk (below_step HB4.out hb5)
      have HS5 : Aside0 (g ≤ w5.heap.size) := Aside0.mk (Nat.le_trans HS4.out hb5.size)
      clear hb5 HF4 HB4 HS4
      go_wp2_with fail
      have hsz : ∀ n, (nm n).size ≤ 1000000 := fun n => by
        have : (nm n).size = 2 ∨ (nm n).size = 3 := by unfold nm; split; exact .inl rfl; exact .inr rfl
        omega
      refine (do_calls (c := ⟨3, 0, 0, nm i, nm j, 0, 0, 0⟩) (loopF_ok j) (by omega) HF5.out (hsz i) (show (0 : Int) ≤ 9223372036854775807 by decide)).mono ?_
      rintro e w6 ⟨rfl, h6, k6⟩
      have hb6 : Below g w5 w6 := k6.under (fun k hk => by omega) HS5.out
      have HB6 := Aside0.mk (HB5.out.trans (hb6.mono HGW.out))
      have HS6 : Aside0 (g ≤ w6.heap.size) := Aside0.mk (Nat.le_trans HS5.out hb6.size)
      have h6' : FsAt g g (fun k => g ≤ k) (loopF (i + 1 - 1)) w6 := by
        have h7 := FsAt.weak h6 (ok' := fun k => g ≤ k) (fun k hk => hk.elim id (fun h => Nat.le_trans HS5.out h))
        rw [show i + 1 - 1 = j + 1 by have := HJ.out; omega]
        rw [HJ.out] at h7
        exact h7
      have HF6 := Aside0.mk h6'
      clear h6 k6 hb6 HF5 HB5 HS5 hsz h6'
      go_wp2
      go_roundw
      case rel => exact ⟨i + 1, by go_num, by omega, by omega, HB6, HS6, HF6⟩
      case measure => simp [intOf]; omega
    · have d1 : decide ((i : Int) ≤ (k : Int)) = false := decide_eq_false (by omega)
      have hik' : i = k + 1 := by omega
      have hF : FsAt g g (fun k => g ≤ k) (loopF k) wr := by have := HFr.out; rwa [show i - 1 = k by omega] at this
      have HF := Aside0.mk hF
      have hsm := loopF_small hk60
      have HM := Aside0.mk hsm
      clear hF HFr hsm hik'
      go_wp2_with fail
      refine (name_calls k (by omega) wr).mono ?_
      rintro e w4 ⟨rfl, hb4⟩
      have HF4 := Aside0.mk (HF.out.below hb4)
      have HB4 := Aside0.mk (below_step HBr.out hb4)
      clear hb4 HF HBr HSr
      go_wp2_with fail
      refine (walk_calls 0 0 (nm k) true w4 HF4.out HM.out.1 HM.out.2).mono ?_
      rintro e w5 ⟨r, rfl, hw, hb5⟩
      have hsay := loops_say hk60 hw
      have HB5 := Aside0.mk (below_step HB4.out hb5)
      clear hw hb5 HF4 HM HB4
      obtain ⟨r1, r2⟩ := r
      by_cases c : 40 < k
      · rw [if_pos c] at hsay
        have d2 : decide ((40 : Int) < (k : Int)) = true := decide_eq_true (by omega)
        obtain ⟨rfl, rfl⟩ := Prod.mk.inj hsay
        clear hsay
        go_wp2_with fail
        go_ret
        exact ⟨rfl, below_step HB5.out (below_al _)⟩
      · rw [if_neg c] at hsay
        have d2 : decide ((40 : Int) < (k : Int)) = false := decide_eq_false (by omega)
        obtain ⟨hr2, d, hr1⟩ := hsay
        simp only at hr2 hr1
        subst hr2 hr1
        go_wp2_with fail
        go_ret
        exact ⟨rfl, below_step HB5.out (below_al _)⟩
end Go.Proofs.YtcbjkfhflmlniaaDoor.QVfs
end

section
/- PathLoops as its row calls it. -/
namespace Go.Proofs.YtcbjkfhflmlniaaDoor.QVfs
open Go.RowKit
set_option linter.unusedVariables false
def domesdaylaw08_PathLoops.f (v : Int) : Option Bool := if 0 ≤ v ∧ v ≤ 255 then some true else none
theorem domesdaylaw08_PathLoops.calls (v : Int) (r : Bool) (w : World) (h : domesdaylaw08_PathLoops.f v = some r) :
    Calls Tryd.prog 6 #[.int .u8 v] w fun e w' => e = .returned (.bool r) ∧ Below w.heap.size w w' := by
  unfold domesdaylaw08_PathLoops.f at h
  split at h
  · rename_i hw
    obtain rfl := Option.some.inj h
    exact loops_calls v hw.1 hw.2 w
  · cases h
end Go.Proofs.YtcbjkfhflmlniaaDoor.QVfs
end

section
/- P8.4: a chain of links is followed forty times, and no more. -/
namespace Go.Proofs.YtcbjkfhflmlniaaDoor.Pure
open Go.RowKit Go.Proofs.YtcbjkfhflmlniaaDoor.QVfs
theorem PathLoops (v : Int) (hv : (Lit.int .u8 v).wf = true) : domesdaylaw08_PathLoops.f v = some true := by
  unfold domesdaylaw08_PathLoops.f
  rw [if_pos (by simp [Lit.wf, IntKind.min, IntKind.max, IntKind.signed, IntKind.bits] at hv; omega)]
end Go.Proofs.YtcbjkfhflmlniaaDoor.Pure
end
