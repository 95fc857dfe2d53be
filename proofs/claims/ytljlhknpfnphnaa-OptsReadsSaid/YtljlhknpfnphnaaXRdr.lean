/- The reader of arguments in memory, and its smallest methods: fail, next, put, operand. -/
import Derived.Test.YtljlhknpfnphnaaQOpts0
import Derived.Deep.RegionHeld3
import Derived.Deep.AppendLies
import Derived.Maps.AppendAt
import Derived.Deep.DrawnRows
import Derived.LoopTactic
import Derived.Outline
namespace Go.Proofs.Ytljlhknpfnphnaa.QOpts
open Go.RowKit Go.Lib Go.Proofs.YtljlhknpfnphnaaW.PrintWords Go.Proofs.YtljlhknpfnphnaaW.PrintLast Go.Proofs.YtljlhknpfnphnaaW.PrintMore
set_option linter.unusedVariables false
set_option linter.unusedSimpArgs false

/-- The reader: its specs and arguments lie in what came in, its options and operands in rows of its own. -/
structure Rdr (w0 w : World) (g : Nat) (As : Option Addr) (cs : Nat) (specs : List S42) (Aa : Option Addr) (ca : Nat) (args : List ByteArray) (vo : Value) (os : List S36) (vp : Value) (ps : List ByteArray) (bad : ByteArray) (e : Int) : Prop where
  bel : Below w0.heap.size w0 w
  ge : w0.heap.size ≤ g
  blk : w.heap[g]? = some (.cells #[.slice As specs.length cs, .slice Aa args.length ca, vo, vp, .string bad, .int .i64 e] 45 (0, 0))
  hs : Kd.C k42 w0 As specs.length specs
  hsc : specs.length ≤ cs
  ha : Kd.C Kd.string w0 Aa args.length args
  hac : args.length ≤ ca
  ho : Kd.R k36 36 w w0.heap.size (fun _ => True) vo os
  hp : Kd.R Kd.string 9 w w0.heap.size (fun _ => True) vp ps
/-- The reader, wherever its rows lie. -/
def St (w0 w : World) (g : Nat) (specs : List S42) (args : List ByteArray) (os : List S36) (ps : List ByteArray) (bad : ByteArray) (e : Int) : Prop :=
  ∃ As cs Aa ca vo vp, Rdr w0 w g As cs specs Aa ca args vo os vp ps bad e
/-- What may have changed: the reader's block, and rows of options. -/
def Fr (w w' : World) (g : Nat) : Prop := ∀ (b : Nat) (cells : Array Value) (t : Nat), b ≠ g → t ≠ 36 → w.heap[b]? = some (.cells cells t (0, 0)) → w'.heap[b]? = some (.cells cells t (0, 0))
theorem Fr.refl (w : World) (g : Nat) : Fr w w g := fun _ _ _ _ _ h => h
theorem Fr.set {w w' : World} {g : Nat} (h : Fr w w' g) (i : Nat) (v : Value) : Fr w (w'.setCell ⟨g, i, none⟩ v) g := fun b cells t hb ht hc => blk_far (h b cells t hb ht hc) (p := ⟨g, i, none⟩) hb v
theorem Fr.trans {w w1 w2 : World} {g : Nat} (h : Fr w w1 g) (k : Fr w1 w2 g) : Fr w w2 g := fun b cells t hb ht hc => k b cells t hb ht (h b cells t hb ht hc)
theorem Fr.below {w w' : World} (g : Nat) (h : Below w.heap.size w w') : Fr w w' g := fun b cells t hb ht hc => (h.block b (blk_lt hc)).trans hc
section
variable {w0 w : World} {g : Nat} {As : Option Addr} {cs : Nat} {specs : List S42} {Aa : Option Addr} {ca : Nat} {args : List ByteArray} {vo : Value} {os : List S36} {vp : Value} {ps : List ByteArray} {bad : ByteArray} {e : Int}
theorem Rdr.set (h : Rdr w0 w g As cs specs Aa ca args vo os vp ps bad e) (i : Nat) (u : Value) :
    Below w0.heap.size w0 (w.setCell ⟨g, i, none⟩ u) ∧ Kd.R k36 36 (w.setCell ⟨g, i, none⟩ u) w0.heap.size (fun _ => True) vo os ∧ Kd.R Kd.string 9 (w.setCell ⟨g, i, none⟩ u) w0.heap.size (fun _ => True) vp ps ∧
      (w.setCell ⟨g, i, none⟩ u).heap[g]? = some (.cells (#[.slice As specs.length cs, .slice Aa args.length ca, vo, vp, .string bad, .int .i64 e].setIfInBounds i u) 45 (0, 0)) :=
  ⟨below_set h.bel h.ge, Kd.R_set h.ho h.blk (by decide) i u, Kd.R_set h.hp h.blk (by decide) i u, blk_set h.blk i u⟩
theorem Rdr.drew (h : Rdr w0 w g As cs specs Aa ca args vo os vp ps bad e) : Rdr w0 w.drew g As cs specs Aa ca args vo os vp ps bad e :=
  ⟨below_drew h.bel, h.ge, h.blk, h.hs, h.hsc, h.ha, h.hac, Kd.R_drew h.ho, Kd.R_drew h.hp⟩
theorem Rdr.below {w' : World} (h : Rdr w0 w g As cs specs Aa ca args vo os vp ps bad e) (hb : Below w.heap.size w w') : Rdr w0 w' g As cs specs Aa ca args vo os vp ps bad e :=
  ⟨below_step h.bel hb, h.ge, (hb.block g (blk_lt h.blk)).trans h.blk, h.hs, h.hsc, h.ha, h.hac, Kd.R_below h.ho hb, Kd.R_below h.hp hb⟩
theorem Rdr.cell (h : Rdr w0 w g As cs specs Aa ca args vo os vp ps bad e) (i : Nat) (v : Value) (hv : (#[.slice As specs.length cs, .slice Aa args.length ca, vo, vp, .string bad, .int .i64 e] : Array Value)[i]? = some v) : w.cell? ⟨g, i, none⟩ = some v := (blk_cell h.blk i).trans hv
theorem Rdr.setBad (h : Rdr w0 w g As cs specs Aa ca args vo os vp ps bad e) (b : ByteArray) : Rdr w0 (w.setCell ⟨g, 4, none⟩ (.string b)) g As cs specs Aa ca args vo os vp ps b e := by
  obtain ⟨h1, h2, h3, h4⟩ := h.set 4 (.string b)
  exact ⟨h1, h.ge, h4, h.hs, h.hsc, h.ha, h.hac, h2, h3⟩
theorem Rdr.setE (h : Rdr w0 w g As cs specs Aa ca args vo os vp ps bad e) (e' : Int) : Rdr w0 (w.setCell ⟨g, 5, none⟩ (.int .i64 e')) g As cs specs Aa ca args vo os vp ps bad e' := by
  obtain ⟨h1, h2, h3, h4⟩ := h.set 5 (.int .i64 e')
  exact ⟨h1, h.ge, h4, h.hs, h.hsc, h.ha, h.hac, h2, h3⟩
theorem Rdr.setArgs (h : Rdr w0 w g As cs specs Aa ca args vo os vp ps bad e) {Aa' : Option Addr} {ca' : Nat} {args' : List ByteArray} (ha : Kd.C Kd.string w0 Aa' args'.length args') (hc : args'.length ≤ ca') :
    Rdr w0 (w.setCell ⟨g, 1, none⟩ (.slice Aa' args'.length ca')) g As cs specs Aa' ca' args' vo os vp ps bad e := by
  obtain ⟨h1, h2, h3, h4⟩ := h.set 1 (.slice Aa' args'.length ca')
  exact ⟨h1, h.ge, h4, h.hs, h.hsc, ha, hc, h2, h3⟩
theorem Rdr.st (h : Rdr w0 w g As cs specs Aa ca args vo os vp ps bad e) : St w0 w g specs args os ps bad e := ⟨As, cs, Aa, ca, vo, vp, h⟩
theorem St.drew (h : St w0 w g specs args os ps bad e) : St w0 w.drew g specs args os ps bad e := by
  obtain ⟨As, cs, Aa, ca, vo, vp, h⟩ := h
  exact h.drew.st
theorem St.below {w' : World} (h : St w0 w g specs args os ps bad e) (hb : Below w.heap.size w w') : St w0 w' g specs args os ps bad e := by
  obtain ⟨As, cs, Aa, ca, vo, vp, h⟩ := h
  exact (h.below hb).st
end
set_option maxHeartbeats 1000000 in
theorem fail_calls {w0 w : World} {g : Nat} {specs : List S42} {args : List ByteArray} {os : List S36} {ps : List ByteArray} {bad : ByteArray} {e : Int}
    (h : St w0 w g specs args os ps bad e) (arg : ByteArray) :
    Calls Try.prog 35 #[.pointer (some ⟨g, 0, none⟩), .string arg] w fun ed w' => ed = .returned (.tuple #[]) ∧ St w0 w' g specs args os ps arg 10 ∧ Fr w w' g := by
  obtain ⟨As, cs, Aa, ca, vo, vp, h⟩ := h
  have c4 := h.cell 4 _ rfl
  have c5 := h.cell 5 _ rfl
  have f4 := blk_frozen h.blk 4
  have f5 := blk_frozen h.blk 5
  have A := Aside0.mk h
  clear h
  go_enter Try.func35, Try.ntmps35
  go_wp2
  go_end0
  exact ⟨rfl, ((A.out.setBad arg).setE 10).st, ((Fr.refl w g).set 4 _).set 5 _⟩
set_option maxHeartbeats 1000000 in
theorem next_none {w0 w : World} {g : Nat} {specs : List S42} {os : List S36} {ps : List ByteArray} {bad : ByteArray} {e : Int}
    (h : St w0 w g specs [] os ps bad e) (arg : ByteArray) :
    Calls Try.prog 36 #[.pointer (some ⟨g, 0, none⟩), .string arg] w fun ed w' => ed = .returned (.string ⟨#[]⟩) ∧ St w0 w' g specs [] os ps arg 10 ∧ Fr w w' g := by
  have cF := fail_calls h arg
  obtain ⟨As, cs, Aa, ca, vo, vp, h⟩ := h
  have c1 := h.cell 1 _ rfl
  have A := Aside0.mk h
  clear h
  go_enter Try.func36, Try.ntmps36
  go_wp2_with (go_at_call 35; refine cF.mono ?_; rintro ed w' ⟨rfl, hr, hfr⟩)
  go_ret
  exact ⟨rfl, hr, hfr⟩
set_option maxHeartbeats 1000000 in
theorem next_some {w0 w : World} {g : Nat} {specs : List S42} {args : List ByteArray} {os : List S36} {ps : List ByteArray} {bad : ByteArray} {e : Int} {a : ByteArray}
    (h : St w0 w g specs (a :: args) os ps bad e) (arg : ByteArray) :
    Calls Try.prog 36 #[.pointer (some ⟨g, 0, none⟩), .string arg] w fun ed w' => ed = .returned (.string a) ∧ St w0 w' g specs args os ps bad e ∧ Fr w w' g := by
  obtain ⟨As, cs, Aa, ca, vo, vp, h⟩ := h
  have c1 := h.cell 1 _ rfl
  have f1 := blk_frozen h.blk 1
  obtain ⟨ad, c, he, _, hK, hc⟩ := Kd.C_get h.ha ByteArray.empty 0 (by omega) (by simp)
  obtain rfl := hK
  have ca0 : w.cell? ad = some (.string a) := pw_cell_below h.bel (by have := hc 0 _ rfl; simpa [Addr.add] using this)
  have hac := h.hac
  simp only [List.length_cons] at hac
  have hdr := Kd.C_drop h.ha (m := 1) (by simp) h.hac
  simp only [List.drop_succ_cons, List.drop_zero, he] at hdr
  subst he
  have A := Aside0.mk h
  have n1 : (1 : Int) ≤ ((args.length + 1 : Nat) : Int) := by omega
  have n2 : ((args.length + 1 : Nat) : Int) ≤ (ca : Int) := by omega
  have n3 : (((args.length : Nat) : Int) + 1 == 0) = false := beq_eq_false_iff_ne.2 (by omega)
  clear h hc
  by_cases hc1 : ca = 1
  · subst hc1
    obtain rfl : args = [] := List.eq_nil_of_length_eq_zero (by omega)
    go_enter Try.func36, Try.ntmps36
    go_wp2
    go_ret
    simp only [if_true] at hdr
    exact ⟨rfl, (A.out.setArgs (Aa' := some ad) (ca' := 0) (args' := []) hdr (by simp)).st, (Fr.refl w g).set 1 _⟩
  · rw [if_neg hc1] at hdr
    go_enter Try.func36, Try.ntmps36
    go_wp2
    go_ret
    exact ⟨rfl, (A.out.setArgs (ca' := ca - 1) (args' := args) hdr (by omega)).st, (Fr.refl w g).set 1 _⟩
set_option maxHeartbeats 1000000 in
theorem put_bad {w0 w : World} {g : Nat} {specs : List S42} {args : List ByteArray} {os : List S36} {ps : List ByteArray} {bad : ByteArray} {e : Int}
    (h : St w0 w g specs args os ps bad e) (he : e ≠ 0) (c : Int) (s : ByteArray) :
    Calls Try.prog 37 #[.pointer (some ⟨g, 0, none⟩), .int .u8 c, .string s] w fun ed w' => ed = .returned (.tuple #[]) ∧ St w0 w' g specs args os ps bad e ∧ Fr w w' g := by
  obtain ⟨As, cs, Aa, ca, vo, vp, h⟩ := h
  have c5 := h.cell 5 _ rfl
  have b1 : (e == 0) = false := beq_eq_false_iff_ne.2 he
  have A := Aside0.mk h.st
  clear h
  go_enter Try.func37, Try.ntmps37
  go_wp2
  go_end0
  exact ⟨rfl, A.out, Fr.refl w g⟩
set_option maxHeartbeats 1000000 in
theorem put_ok {w0 w : World} {g : Nat} {specs : List S42} {args : List ByteArray} {os : List S36} {ps : List ByteArray} {bad : ByteArray}
    (h : St w0 w g specs args os ps bad 0) (hl : os.length ≤ 1000000) (c : Int) (s : ByteArray) :
    Calls Try.prog 37 #[.pointer (some ⟨g, 0, none⟩), .int .u8 c, .string s] w fun ed w' => ed = .returned (.tuple #[]) ∧ St w0 w' g specs args (os ++ [⟨c, s⟩]) ps bad 0 ∧ Fr w w' g := by
  obtain ⟨As, cs, Aa, ca, vo, vp, h⟩ := h
  have c5 := h.cell 5 _ rfl
  have c2 := h.cell 2 _ rfl
  have A := Aside0.mk h
  clear h
  go_enter Try.func37, Try.ntmps37
  have mk := k36_mkM w w0.heap.size (fun _ => False) (⟨c, s⟩ : S36)
  have bsz := A.out.bel.size
  go_wp2_with (at_builtin; refine Kd.R_append k36 (w0 := w0) w0.heap.size rfl (.tmp 15) (.tmp 19) 26 36 (.agg #[(.int .u8 0), (.string ⟨#[]⟩)]) 24 rfl Try.underlying26 info36 rfl (by decide) (by omega) vo os ⟨c, s⟩ [.int .u8 c, .string s] (fun _ => True) (fun _ => False) rfl rfl mk (fun _ hk => hk.elim) (fun _ _ => trivial) A.out.ho A.out.bel bsz (by omega) ?_; intro v1 w1 HO1 HB1 hg1 hat1; obtain ⟨A1, cc1, e1⟩ := Kd.R_slice HO1; rw [show (os ++ [(⟨c, s⟩ : S36)]).length = os.length + 1 from by simp] at e1; subst e1; have b1 := blk_grown A.out.blk hg1 (Kd.R_ne A.out.ho A.out.blk (by decide)); have c21 := (blk_cell b1 2).trans rfl; have f21 := blk_frozen b1 2)
  go_end0
  have hF : Fr w w1 g := fun b cells t hb ht hc => blk_grown hc hg1 (Kd.R_ne A.out.ho hc (Ne.symm ht))
  refine ⟨rfl, ⟨As, cs, Aa, ca, _, vp, below_set HB1 A.out.ge, A.out.ge, blk_set b1 2 _, A.out.hs, A.out.hsc, A.out.ha, A.out.hac, Kd.R_set HO1 b1 (by decide) 2 _, Kd.R_set (Kd.R_over A.out.hp A.out.ho (by decide) hg1) b1 (by decide) 2 _⟩, hF.set 2 _⟩
set_option maxHeartbeats 1000000 in
theorem operand_calls {w0 w : World} {g : Nat} {specs : List S42} {args : List ByteArray} {os : List S36} {ps : List ByteArray} {bad : ByteArray} {e : Int}
    (h : St w0 w g specs args os ps bad e) (hl : ps.length ≤ 1000000) (s : ByteArray) :
    Calls Try.prog 28 #[.pointer (some ⟨g, 0, none⟩), .string s] w fun ed w' => ed = .returned (.tuple #[]) ∧ St w0 w' g specs args os (ps ++ [s]) bad e := by
  obtain ⟨As, cs, Aa, ca, vo, vp, h⟩ := h
  have c3 := h.cell 3 _ rfl
  have A := Aside0.mk h
  clear h
  have bsz := A.out.bel.size
  go_enter Try.func28, Try.ntmps28
  go_wp2_with (at_builtin; refine Kd.R_append Kd.string (w0 := w0) w0.heap.size rfl (.tmp 8) (.tmp 10) 23 9 (.string ⟨#[]⟩) 16 rfl Try.underlying23 info9 rfl (by decide) (by omega) vp ps s [.string s] (fun _ => True) (fun _ => False) rfl rfl rfl (fun _ hk => hk.elim) (fun _ _ => trivial) A.out.hp A.out.bel bsz (by omega) ?_; intro v1 w1 HO1 HB1 hg1 hat1; obtain ⟨A1, cc1, e1⟩ := Kd.R_slice HO1; rw [show (ps ++ [s]).length = ps.length + 1 from by simp] at e1; subst e1; have b1 := blk_grown A.out.blk hg1 (Kd.R_ne A.out.hp A.out.blk (by decide)); have c21 := (blk_cell b1 3).trans rfl; have f21 := blk_frozen b1 3)
  go_end0
  exact ⟨rfl, As, cs, Aa, ca, vo, _, below_set HB1 A.out.ge, A.out.ge, blk_set b1 3 _, A.out.hs, A.out.hsc, A.out.ha, A.out.hac, Kd.R_set (Kd.R_over A.out.ho A.out.hp (by decide) hg1) b1 (by decide) 3 _, Kd.R_set HO1 b1 (by decide) 3 _⟩
end Go.Proofs.Ytljlhknpfnphnaa.QOpts
