/- opts.Last: the last option of some letters. -/
import Derived.Test.YtljlhknpfnphnaaXBack
import Derived.Test.YtljlhknpfnphnaaShelf
namespace Go.Proofs.Ytljlhknpfnphnaa.QOpts
open Go.RowKit Go.Shelf Go.Lib Go.Proofs.YtljlhknpfnphnaaW.PrintWords Go.Proofs.YtljlhknpfnphnaaW.PrintLast Go.Proofs.YtljlhknpfnphnaaW.PrintMore
attribute [local go_sem] Oper.semAt_some
set_option linter.unusedVariables false
set_option linter.unusedSimpArgs false

/-- An option with one of some letters. -/
def amongP (letters : ByteArray) (x : S36) : Bool := decide (0 ≤ Lib.indexByte letters.data.toList x.f0.toNat.toUInt8)
def lastF (l : List S36) (letters : ByteArray) : Int × ByteArray × Bool :=
  match l.reverse.find? (amongP letters) with
  | some x => (x.f0, x.f1, true)
  | none => (0, ⟨#[]⟩, false)
theorem rev_upto (l : List S36) : l.reverse = (upto (bk l) l.length).map Prod.snd := by
  apply List.ext_getElem
  · simp [upto]
  · intro i h1 h2
    have h : l.length - 1 - i < l.length := by simp at h1; omega
    rw [List.getElem_reverse]
    simp only [upto, bk, List.getElem_map, List.getElem_range]
    unfold rd_T36
    simp [h]
theorem upto_prefix {α : Type} (f : Nat → α) (k n : Nat) (h : k ≤ n) : ∃ r, upto f n = upto f k ++ r := by
  induction n with
  | zero => obtain rfl : k = 0 := by omega
            exact ⟨[], by simp⟩
  | succ n ih =>
    by_cases e : k = n + 1
    · subst e; exact ⟨[], by simp⟩
    · obtain ⟨r, hr⟩ := ih (by omega)
      exact ⟨r ++ [f n], by rw [upto_succ, hr, List.append_assoc]⟩
theorem last_none (l : List S36) (s : ByteArray) (h : ∀ x ∈ upto (bk l) l.length, amongP s x.2 = false) : lastF l s = (0, ⟨#[]⟩, false) := by
  have : l.reverse.find? (amongP s) = none := by
    rw [List.find?_eq_none]
    intro x hx
    rw [rev_upto, List.mem_map] at hx
    obtain ⟨y, hy, rfl⟩ := hx
    rw [h y hy]; decide
  unfold lastF
  rw [this]
theorem last_some (l : List S36) (s : ByteArray) (k : Nat) (hk : k ≤ l.length) (ini : List (Nat × S36)) (last : Nat × S36) (e : upto (bk l) k = ini ++ [last]) (h : ∀ x ∈ ini, amongP s x.2 = false) (h1 : amongP s last.2 = true) : lastF l s = (last.2.f0, last.2.f1, true) := by
  obtain ⟨r, hr⟩ := upto_prefix (bk l) k l.length hk
  have : l.reverse.find? (amongP s) = some last.2 := by
    rw [rev_upto, hr, e, List.map_append, List.map_append, List.append_assoc, List.find?_append]
    have : List.find? (amongP s) (ini.map Prod.snd) = none := by
      rw [List.find?_eq_none]
      intro x hx
      rw [List.mem_map] at hx
      obtain ⟨y, hy, rfl⟩ := hx
      rw [h y hy]; decide
    rw [this]
    simp [h1]
  unfold lastF
  rw [this]
theorem blk_own {α : Type} (b : Nat) (t : TypeId) (cs : Array Value) : Own (fun (_ : α) W => W.heap[b]? = some (.cells cs t (0, 0))) := fun s X Y row hs hg hrow =>
  blk_grown hs hg (fun e' => by obtain ⟨o, ho, hc⟩ := hrow b e'.symm; rw [show X.heap[b]? = _ from hs] at ho; cases ho; cases hc)
set_option maxHeartbeats 4000000 in
theorem Last_calls (a : Option Addr) (cap : Nat) (l : List S36) (s : ByteArray) (w : World) (hl : l.length ≤ 1000000) (hC : Kd.C k36 w a l.length l) (had : ∀ ad, a = some ad → 0 < l.length → ad.block < w.heap.size) :
    Calls Try.prog 13 #[.slice a l.length cap, .string s] w fun e W' => e = .returned (.tuple #[.agg #[.int .u8 (lastF l s).1, .string (lastF l s).2.1], .bool (lastF l s).2.2]) ∧ Below w.heap.size w W' := by
  refine (callsIn_wide (n := 8)).1 ?_
  refine callsIn_of_wp_marks Try.func13 rfl trivial ?_ rfl
  simp only [Try.ntmps13, List.size_toArray, List.length_cons, List.length_nil, Nat.reduceAdd, Nat.reduceSub, Array.replicate_succ, Array.replicate_zero, List.push_toArray, List.append_toArray, List.nil_append, List.cons_append]
  gi_wp2_with (refine ⟨trivial, ?_⟩; gi_at_call 20; refine (back_in Fence.wide _ trivial rfl _ _ _ _).mono ?_; rintro e w' ⟨rfl, rfl⟩)
  have b0 := blk_alloc (blk_alloc (blk_alloc (blk_new w (Obj.cells #[.string s] 9)) (Obj.cells #[.int .u8 0, .string ⟨#[]⟩] 36)) (Obj.cells #[.bool false] 4)) (Obj.cells #[.slice a l.length cap] 26)
  have b1 := blk_alloc (blk_alloc (blk_new (w.alloc (Obj.cells #[.string s] 9)) (Obj.cells #[.int .u8 0, .string ⟨#[]⟩] 36)) (Obj.cells #[.bool false] 4)) (Obj.cells #[.slice a l.length cap] 26)
  have b2 := blk_alloc (blk_new ((w.alloc (Obj.cells #[.string s] 9)).alloc (Obj.cells #[.int .u8 0, .string ⟨#[]⟩] 36)) (Obj.cells #[.bool false] 4)) (Obj.cells #[.slice a l.length cap] 26)
  have b3 := blk_new (((w.alloc (Obj.cells #[.string s] 9)).alloc (Obj.cells #[.int .u8 0, .string ⟨#[]⟩] 36)).alloc (Obj.cells #[.bool false] 4)) (Obj.cells #[.slice a l.length cap] 26)
  have hB0 := (((((Below.refl w.heap.size w).alloc (Nat.le_refl _) (Obj.cells #[.string s] 9)).alloc (by simp) (Obj.cells #[.int .u8 0, .string ⟨#[]⟩] 36)).alloc (by simp; omega) (Obj.cells #[.bool false] 4)).alloc (by simp; omega) (Obj.cells #[.slice a l.length cap] 26))
  have hsz : ((((w.alloc (Obj.cells #[.string s] 9)).alloc (Obj.cells #[.int .u8 0, .string ⟨#[]⟩] 36)).alloc (Obj.cells #[.bool false] 4)).alloc (Obj.cells #[.slice a l.length cap] 26)).heap.size = w.heap.size + 4 := by simp
  simp only [World.size_alloc] at b1 b2 b3
  obtain ⟨W0, hW0⟩ : ∃ W0, ((((w.alloc (Obj.cells #[.string s] 9)).alloc (Obj.cells #[.int .u8 0, .string ⟨#[]⟩] 36)).alloc (Obj.cells #[.bool false] 4)).alloc (Obj.cells #[.slice a l.length cap] 26)) = W0 := ⟨_, rfl⟩
  rw [hW0] at b0 b1 b2 b3 hB0 hsz ⊢
  clear hW0
  refine wpIn_rangeFunc_ownH rfl (by omega) (gf := 29) (lb := #[.pointer (some ⟨w.heap.size + 1 + 1 + 1, 0, none⟩)]) rfl trivial (enters_of Try.func29 (by kernel_rfl) rfl)
    (back_stops Fence.wide _ trivial rfl (by omega) (w.heap.size + 1 + 1 + 1) (w.heap.size + 1 + 1 + 1 + 1) a cap l hl W0 (by omega) (by omega) ((blk_cell b3 0).trans rfl) (Kd.C_below hC hB0) (fun ad h h2 => by have := had ad h h2; omega)) belowK_t (belowK_b (by omega)) (Below.refl _ _) (fun _ => rfl)
    (fun pre W => (((∀ x ∈ pre, amongP s x.2 = false) ∧ (W.heap[w.heap.size]? = some (.cells #[.string s] 9 (0, 0)) ∧ W.heap[w.heap.size + 1 + 1 + 1]? = some (.cells #[.slice a l.length cap] 26 (0, 0)))) ∧ (W.heap[w.heap.size + 1]? = some (.cells #[.int .u8 0, .string ⟨#[]⟩] 36 (0, 0)) ∧ W.heap[w.heap.size + 1 + 1]? = some (.cells #[.bool false] 4 (0, 0)))) ∧ Below w.heap.size w W)
    (fun c pre W => ((c = .ret ∧ ∃ ini last, pre = ini ++ [last] ∧ (∀ x ∈ ini, amongP s x.2 = false) ∧ amongP s last.2 = true ∧ W.heap[w.heap.size + 1]? = some (.cells #[.int .u8 last.2.f0, .string last.2.f1] 36 (0, 0))) ∧ W.heap[w.heap.size + 1 + 1]? = some (.cells #[.bool true] 4 (0, 0))) ∧ Below w.heap.size w W)
    (OwnFrom.and (OwnFrom.and (OwnFrom.and (ownFrom_pure _ _) (OwnFrom.and (Own.from (blk_own _ _ _) _) (Own.from (blk_own _ _ _) _))) (OwnFrom.and (Own.from (blk_own _ _ _) _) (Own.from (blk_own _ _ _) _))) (ownFrom_below (Nat.le_refl _) (by omega)))
    (fun c => OwnFrom.and (OwnFrom.and (Own.from (fun s A B row hs hg hr => by obtain ⟨hc, ini, last, e1, e2, e3, e4⟩ := hs; exact ⟨hc, ini, last, e1, e2, e3, blk_own (α := Unit) _ _ _ () A B row e4 hg hr⟩) _) (Own.from (blk_own _ _ _) _)) (ownFrom_below (Nat.le_refl _) (by omega)))
    ⟨⟨⟨by simp, b0, b3⟩, b1, b2⟩, hB0⟩
    (fun x a' W => ∃ Bx, w.heap.size + 1 + 1 < Bx ∧ W.heap[Bx]? = some (.cells #[.int .u8 x.2.f0, .string x.2.f1] 36 (0, 0)) ∧ a' = { tmps := #[.slice a l.length cap, .string s, undef, .pointer (some ⟨w.heap.size, 0, none⟩), .pointer (some ⟨w.heap.size + 1, 0, none⟩), .pointer (some ⟨w.heap.size + 1 + 1, 0, none⟩), undef, .pointer (some ⟨Bx, 0, none⟩), .slice a l.length cap, .func (.func 29) #[] #[.pointer (some ⟨w.heap.size + 1 + 1 + 1, 0, none⟩)], .int .i64 (x.1 : Int), .agg #[.int .u8 x.2.f0, .string x.2.f1], undef, undef, undef, undef, undef, undef, undef], defers := [] })
    (fun x a' _ X Y row hs hg hr => by obtain ⟨Bx, e1, e2, e3⟩ := hs; exact ⟨Bx, e1, blk_own (α := Unit) _ _ _ () X Y row e2 hg (fun r e => (hr r e).2), e3⟩)
    ?assign ?body ?done ?stop
  case assign =>
    rintro l pre x W K ⟨⟨⟨hp, c0, c3⟩, c1, c2⟩, hB1⟩ hK
    unfold encB
    gi_wp2
    exact hK _ _ ((KeepsOthers.alloc _ _).from _) ((Below.refl _ W).alloc (blk_lt c3) _) ⟨⟨⟨hp, blk_alloc c0 _, blk_alloc c3 _⟩, blk_alloc c1 _, blk_alloc c2 _⟩, hB1.alloc hB1.size _⟩ ⟨W.heap.size, blk_lt c2, blk_new W _, rfl⟩
  case body =>
    rintro l' pre x a' W hl' ⟨r, hr⟩ ⟨⟨⟨hp, c0, c3⟩, c1, c2⟩, hB1⟩ ⟨Bx, hBx, cX, rfl⟩ hlt
    have k0 := (blk_cell c0 0).trans rfl
    have k1 := (blk_cell cX 0).trans rfl
    have k2 := (blk_cell cX 1).trans rfl
    have q0 := (blk_cell c1 0).trans rfl
    have q1 := (blk_cell c1 1).trans rfl
    have q2 := (blk_cell c2 0).trans rfl
    have f0 := blk_frozen c1 0
    have f1 := blk_frozen c1 1
    have f2 := blk_frozen c2 0
    gi_wp2_with (refine ⟨trivial, ?_⟩; gi_at_call 21; refine (CallsIn.inRound l' (callsIn_wide.2 (Try.strings_IndexByte _ _ _))).mono ?_; rintro e w' ⟨rfl, rfl⟩)
    · rename_i hx
      refine ⟨(((KeepsOthers.setCell _ _ _).trans (KeepsOthers.setCell _ _ _)).trans (KeepsOthers.setCell _ _ _)).from _, ⟨⟨rfl, pre, x, rfl, hp, decide_eq_true hx, ?_⟩, ?_⟩, ?_⟩
      · exact blk_far (blk_set (blk_set c1 0 _) 1 _) (by simp) _
      · exact blk_set (blk_far (blk_far c2 (by simp) _) (by simp) _) 0 _
      · exact ((hB1.setCell (p := ⟨w.heap.size + 1, 0, none⟩) (by simp) _).setCell (p := ⟨w.heap.size + 1, 1, none⟩) (by simp) _).setCell (p := ⟨w.heap.size + 1 + 1, 0, none⟩) (by simp; omega) _
    · rename_i hx
      exact ⟨KeepsFrom.refl _ _, Below.refl _ _, ⟨⟨⟨fun z hz => (List.mem_append.1 hz).elim (hp z) (fun e => by simp at e; subst e; exact decide_eq_false (Int.not_le.2 hx)), c0, c3⟩, c1, c2⟩, hB1⟩⟩
  case done =>
    rintro D ys W hD rfl ⟨⟨⟨hp, c0, c3⟩, c1, c2⟩, hB1⟩ hK
    have q0 := (blk_cell c1 0).trans rfl
    have q1 := (blk_cell c1 1).trans rfl
    have q2 := (blk_cell c2 0).trans rfl
    have f0 := blk_frozen c1 0
    have f1 := blk_frozen c1 1
    have f2 := blk_frozen c2 0
    gi_wp2
    have hK' := (((KeepsOthers.setCell W ⟨w.heap.size + 1, 0, none⟩ (.int .u8 0)).trans (KeepsOthers.setCell _ ⟨w.heap.size + 1, 1, none⟩ (.string ⟨#[]⟩))).trans (KeepsOthers.setCell _ ⟨w.heap.size + 1 + 1, 0, none⟩ (.bool false))).same D _ hK rfl
    have d1 := blk_far (blk_set (blk_set c1 0 (.int .u8 0)) 1 (.string ⟨#[]⟩)) (p := ⟨w.heap.size + 1 + 1, 0, none⟩) (by simp) (.bool false)
    have d2 := blk_set (blk_far (blk_far c2 (p := ⟨w.heap.size + 1, 0, none⟩) (by simp) (.int .u8 0)) (p := ⟨w.heap.size + 1, 1, none⟩) (by simp) (.string ⟨#[]⟩)) 0 (.bool false)
    refine ⟨by simp, .inl ⟨_, _, rfl, run_takeDeferred hK', ?_⟩⟩
    have g1 := cell_kept ((blk_cell d1 0).trans rfl) (grownBy_putObj' _ D (.deferred none)) (fun r e => by cases e; exact ⟨_, hK', rfl⟩)
    have g2 := cell_kept ((blk_cell d1 1).trans rfl) (grownBy_putObj' _ D (.deferred none)) (fun r e => by cases e; exact ⟨_, hK', rfl⟩)
    have g3 := cell_kept ((blk_cell d2 0).trans rfl) (grownBy_putObj' _ D (.deferred none)) (fun r e => by cases e; exact ⟨_, hK', rfl⟩)
    refine ⟨.tuple #[.agg #[.int .u8 0, .string ⟨#[]⟩], .bool false], ?_, by rw [last_none l s hp], (((hB1.setCell (p := ⟨w.heap.size + 1, 0, none⟩) (by simp) _).setCell (p := ⟨w.heap.size + 1, 1, none⟩) (by simp) _).setCell (p := ⟨w.heap.size + 1 + 1, 0, none⟩) (by simp; omega) _).trans (belowK_b (w := w) (Nat.le_refl _) _ D _ _ (by omega) hK' rfl rfl)⟩
    simp [results, Try.results13, Try.f13, go_sem, g1, g2, g3]
  case stop =>
    rintro D c pre W hD hpre ⟨⟨⟨rfl, ini, last, e1, e2, e3, e4⟩, c2⟩, hB1⟩ hK
    gi_wp2
    obtain ⟨k, hk, rfl⟩ := hpre
    refine ⟨by simp, .inl ⟨_, _, rfl, run_takeDeferred hK, ?_⟩⟩
    have g1 := cell_kept ((blk_cell e4 0).trans rfl) (grownBy_putObj' _ D (.deferred none)) (fun r e => by cases e; exact ⟨_, hK, rfl⟩)
    have g2 := cell_kept ((blk_cell e4 1).trans rfl) (grownBy_putObj' _ D (.deferred none)) (fun r e => by cases e; exact ⟨_, hK, rfl⟩)
    have g3 := cell_kept ((blk_cell c2 0).trans rfl) (grownBy_putObj' _ D (.deferred none)) (fun r e => by cases e; exact ⟨_, hK, rfl⟩)
    refine ⟨.tuple #[.agg #[.int .u8 last.2.f0, .string last.2.f1], .bool true], ?_, by rw [last_some l s k hk ini last e1 e2 e3], hB1.trans (belowK_b (w := w) (Nat.le_refl _) _ D _ _ (by omega) hK rfl rfl)⟩
    simp [results, Try.results13, Try.f13, go_sem, g1, g2, g3]
theorem cell_lt_ {w : World} {p : Addr} {v : Value} (h : w.cell? p = some v) : p.block < w.heap.size := by
  unfold World.cell? at h
  cases hb : w.heap[p.block]? with
  | none => rw [hb] at h; cases h
  | some o => exact (Array.getElem?_eq_some_iff.1 hb).1
def opts_Last.f (k : Nat) (l0 : List S36) (a1 : ByteArray) : Option (Int × ByteArray × Bool) := if l0.length ≤ 1000000 then some (lastF l0 a1) else none
theorem opts_Last.mono : ∀ a0 a1 k, LeO (opts_Last.f k a0 a1) (opts_Last.f (k + 1) a0 a1) := fun _ _ _ => LeO.refl _
theorem opts_Last.calls (k : Nat) (A0 : Option Addr) (c0 : Nat) (l0 : List S36) (a1 : ByteArray) (r0 : Int) (r1 : ByteArray) (r2 : Bool) (w : World) (hr0 : Kd.C k36 w A0 l0.length l0) (hc0 : l0.length ≤ c0) (h : opts_Last.f k l0 a1 = some (r0, r1, r2)) :
    Calls Try.prog 13 #[.slice A0 l0.length c0, .string a1] w fun e w' => e = .returned (.tuple #[.agg #[.int .u8 r0, .string r1], .bool r2]) ∧ Below w.heap.size w w' := by
  unfold opts_Last.f at h
  split at h
  · rename_i hl
    have e := Option.some.inj h
    have := Last_calls A0 c0 l0 a1 w hl hr0 (fun ad ha hn => by
      obtain ⟨ad', he, k0, k1⟩ := at_T36 hr0 0 (by omega) (by omega)
      rw [ha] at he
      obtain rfl := Option.some.inj he
      have := cell_lt_ k0
      unfold Addr.add at this
      split at this <;> exact this)
    rw [e] at this
    exact this
  · cases h
end Go.Proofs.Ytljlhknpfnphnaa.QOpts
