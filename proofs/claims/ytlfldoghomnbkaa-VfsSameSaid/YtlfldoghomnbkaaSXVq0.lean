import Derived.Test.YtlfldoghomnbkaaSVf13
-- Texts of this seat, what the claim does not reach struck out by a program.
namespace Go.Proofs.Ytlfldoghomnbkaa.QVfs
open Go.RowKit Go.Proofs.YtlfldoghomnbkaaW.PrintWords Go.Proofs.YtlfldoghomnbkaaW.PrintLast Go.Proofs.YtlfldoghomnbkaaW.PrintMore
set_option linter.unusedVariables false
set_option linter.unusedSimpArgs false
abbrev RItem := S81
structure Ref where
 N : List Node
 L : List RItem
 Cov : List Int
 Dead : List Bool
 Above : List Int
 Firsts : List Int
def RefAt (R : Ref) (w : World) (vs : Array Value) : Prop :=
 ∃ A0 c0 A1 c1 A2 c2 A3 c3 A4 c4 A5 c5, vs = #[.slice A0 R.N.length c0, .slice A1 R.L.length c1, .slice A2 R.Cov.length c2, .slice A3 R.Dead.length c3, .slice A4 R.Above.length c4, .slice A5 R.Firsts.length c5] ∧
  (Kd.C k36 w A0 R.N.length R.N ∧ R.N.length ≤ c0) ∧ (Kd.C k81 w A1 R.L.length R.L ∧ R.L.length ≤ c1) ∧ (Kd.C (Kd.int .i64) w A2 R.Cov.length R.Cov ∧ R.Cov.length ≤ c2) ∧ (Kd.C Kd.bool w A3 R.Dead.length R.Dead ∧ R.Dead.length ≤ c3) ∧ (Kd.C (Kd.int .i64) w A4 R.Above.length R.Above ∧ R.Above.length ≤ c4) ∧ (Kd.C (Kd.int .i64) w A5 R.Firsts.length R.Firsts ∧ R.Firsts.length ≤ c5)
theorem RefAt.below {R : Ref} {w w' : World} {vs : Array Value} (h : RefAt R w vs) (hb : Below w.heap.size w w') : RefAt R w' vs := by
 obtain ⟨A0, c0, A1, c1, A2, c2, A3, c3, A4, c4, A5, c5, e, h0, h1, h2, h3, h4, h5⟩ := h
 exact ⟨A0, c0, A1, c1, A2, c2, A3, c3, A4, c4, A5, c5, e, ⟨Kd.C_below h0.1 hb, h0.2⟩, ⟨Kd.C_below h1.1 hb, h1.2⟩, ⟨Kd.C_below h2.1 hb, h2.2⟩, ⟨Kd.C_below h3.1 hb, h3.2⟩, ⟨Kd.C_below h4.1 hb, h4.2⟩, ⟨Kd.C_below h5.1 hb, h5.2⟩⟩
theorem wrapR {i : Nat} (h : i ≤ 10000000) : wrap64 ((i : Int) + 1) = ((i + 1 : Nat) : Int) := by unfold wrap64; omega
structure Ref.Ok (R : Ref) (m : Nat) : Prop where
 N : R.N.length ≤ 300
 L : R.L.length ≤ m
 Cov : R.Cov.length = R.N.length
 Dead : R.Dead.length = R.N.length
 Above : R.Above.length = R.N.length
 Firsts : R.Firsts.length ≤ R.N.length
def Ref.cnt (R : Ref) (dev : Int) : Nat := (R.N.filter fun x => x.f0 == dev).length
def inoN (n : Node) (i : Int) : Node := ⟨n.f0, i, n.f2, n.f3, n.f4, n.f5, n.f6, n.f7, n.f8, n.f9, n.f10⟩
def Ref.add (R : Ref) (n : Node) (up : Int) : Ref := ⟨R.N ++ [inoN n (1 + R.cnt n.f0)], R.L, R.Cov ++ [-1], R.Dead ++ [false], R.Above ++ [up], R.Firsts⟩
def modeR (m : Int) : Int := m % 4096
def dirR (dev mode : Int) : Node := ⟨dev, 0, 2, modeR mode, 0, 0, 4096, 8, 0, ⟨0, 0, 0⟩, ⟨#[]⟩⟩
def Ref.firstOf (R : Ref) : Ref := ⟨R.N, R.L, R.Cov, R.Dead, R.Above, R.Firsts ++ [(R.N.length : Int)]⟩
def Ref.device (R : Ref) (mode up : Int) : Ref := R.firstOf.add (dirR (R.Firsts.length + 1) mode) up
def Ref.new : Ref := Ref.device ⟨[], [], [], [], [], []⟩ 493 0
def Ref.cntTo (R : Ref) (dev : Int) (i : Nat) : Nat := ((R.N.take i).filter fun x => x.f0 == dev).length
theorem Ref.cntTo_le (R : Ref) (dev : Int) (i : Nat) : R.cntTo dev i ≤ i := Nat.le_trans (List.length_filter_le _ _) (List.length_take_le _ _)
theorem Ref.cntTo_succ (R : Ref) (dev : Int) (i : Nat) (h : i < R.N.length) : R.cntTo dev (i + 1) = R.cntTo dev i + if (rd_T36 R.N i).f0 = dev then 1 else 0 := by
 unfold Ref.cntTo
 rw [List.take_succ_eq_append_getElem h, List.filter_append, List.length_append]
 have e : rd_T36 R.N (i : Int) = R.N[i] := by unfold rd_T36; simp [h]
 rw [e]
 by_cases g : R.N[i].f0 = dev
 ·simp [g]
 ·have : (R.N[i].f0 == dev) = false := beq_eq_false_iff_ne.2 g
  simp [this, g]
theorem RefAt.mk' {R : Ref} {w : World} {v0 v1 v2 v3 v4 v5 : Value} (h0 : ∃ A c, v0 = .slice A R.N.length c ∧ R.N.length ≤ c ∧ Kd.C k36 w A R.N.length R.N) (h1 : ∃ A c, v1 = .slice A R.L.length c ∧ R.L.length ≤ c ∧ Kd.C k81 w A R.L.length R.L)
  (h2 : ∃ A c, v2 = .slice A R.Cov.length c ∧ R.Cov.length ≤ c ∧ Kd.C (Kd.int .i64) w A R.Cov.length R.Cov) (h3 : ∃ A c, v3 = .slice A R.Dead.length c ∧ R.Dead.length ≤ c ∧ Kd.C Kd.bool w A R.Dead.length R.Dead)
  (h4 : ∃ A c, v4 = .slice A R.Above.length c ∧ R.Above.length ≤ c ∧ Kd.C (Kd.int .i64) w A R.Above.length R.Above) (h5 : ∃ A c, v5 = .slice A R.Firsts.length c ∧ R.Firsts.length ≤ c ∧ Kd.C (Kd.int .i64) w A R.Firsts.length R.Firsts) : RefAt R w #[v0, v1, v2, v3, v4, v5] := by
 obtain ⟨A0, c0, rfl, l0, k0⟩ := h0
 obtain ⟨A1, c1, rfl, l1, k1⟩ := h1
 obtain ⟨A2, c2, rfl, l2, k2⟩ := h2
 obtain ⟨A3, c3, rfl, l3, k3⟩ := h3
 obtain ⟨A4, c4, rfl, l4, k4⟩ := h4
 obtain ⟨A5, c5, rfl, l5, k5⟩ := h5
 exact ⟨A0, c0, A1, c1, A2, c2, A3, c3, A4, c4, A5, c5, rfl, ⟨k0, l0⟩, ⟨k1, l1⟩, ⟨k2, l2⟩, ⟨k3, l3⟩, ⟨k4, l4⟩, ⟨k5, l5⟩⟩
theorem V_row {α : Type} {d : Kd α} {e : Nat} {w : World} {base : Nat} {ok : Nat → Prop} {v : Value} {xs : List α} (h : Kd.V d e w base ok v xs) : ∃ A c, v = .slice A xs.length c ∧ xs.length ≤ c ∧ Kd.C d w A xs.length xs := by
 obtain ⟨A, c, hv, hl, hf⟩ := h
 exact ⟨A, c, hv, hl, Kd.F_now hf⟩
abbrev kN : Kd Node := k36
abbrev kL : Kd RItem := k81
abbrev kI : Kd Int := Kd.int .i64
def RefV (R : Ref) (w : World) (ok : Nat → Prop) (vs : Array Value) : Prop :=
 ∃ v0 v1 v2 v3 v4 v5, vs = #[v0, v1, v2, v3, v4, v5] ∧ Kd.V kN 0 w 0 ok v0 R.N ∧ Kd.V kL 0 w 0 ok v1 R.L ∧ Kd.V kI 0 w 0 ok v2 R.Cov ∧ Kd.V Kd.bool 0 w 0 ok v3 R.Dead ∧ Kd.V kI 0 w 0 ok v4 R.Above ∧ Kd.V kI 0 w 0 ok v5 R.Firsts
theorem V_re {α : Type} {d : Kd α} {e e' : Nat} {w : World} {base base' : Nat} {ok ok' : Nat → Prop} {v : Value} {xs : List α} (h : Kd.V d e w base ok v xs) (hok : ∀ k, ok k → ok' k) : Kd.V d e' w base' ok' v xs := by
 obtain ⟨A, c, hv, hl, hf⟩ := h
 exact ⟨A, c, hv, hl, Kd.F_mono hf hok⟩
section
variable {R : Ref} {w w1 : World} {ok ok' : Nat → Prop} {vs : Array Value}
theorem RefV.at (h : RefV R w ok vs) : RefAt R w vs := by
 obtain ⟨v0, v1, v2, v3, v4, v5, rfl, h0, h1, h2, h3, h4, h5⟩ := h
 exact RefAt.mk' (V_row h0) (V_row h1) (V_row h2) (V_row h3) (V_row h4) (V_row h5)
theorem RefV.mono (h : RefV R w ok vs) (hok : ∀ k, ok k → ok' k) : RefV R w ok' vs := by
 obtain ⟨v0, v1, v2, v3, v4, v5, rfl, h0, h1, h2, h3, h4, h5⟩ := h
 exact ⟨_, _, _, _, _, _, rfl, V_re h0 hok, V_re h1 hok, V_re h2 hok, V_re h3 hok, V_re h4 hok, V_re h5 hok⟩
theorem RefV.below (h : RefV R w ok vs) (hb : Below w.heap.size w w1) : RefV R w1 ok vs := by
 obtain ⟨v0, v1, v2, v3, v4, v5, rfl, h0, h1, h2, h3, h4, h5⟩ := h
 exact ⟨_, _, _, _, _, _, rfl, Kd.V_below h0 hb, Kd.V_below h1 hb, Kd.V_below h2 hb, Kd.V_below h3 hb, Kd.V_below h4 hb, Kd.V_below h5 hb⟩
theorem RefV.set (h : RefV R w ok vs) (b j : Nat) (u : Value) (hok : ∀ k, ok k → k ≠ b) : RefV R (w.setCell ⟨b, j, none⟩ u) ok vs := by
 obtain ⟨v0, v1, v2, v3, v4, v5, rfl, h0, h1, h2, h3, h4, h5⟩ := h
 exact ⟨_, _, _, _, _, _, rfl, Kd.V_far (p := ⟨b, j, none⟩) h0 hok u, Kd.V_far (p := ⟨b, j, none⟩) h1 hok u, Kd.V_far (p := ⟨b, j, none⟩) h2 hok u, Kd.V_far (p := ⟨b, j, none⟩) h3 hok u, Kd.V_far (p := ⟨b, j, none⟩) h4 hok u, Kd.V_far (p := ⟨b, j, none⟩) h5 hok u⟩
theorem RefV.form (h : RefV R w ok vs) : ∃ A0 c0 A1 c1 A2 c2 A3 c3 A4 c4 A5 c5, vs = #[.slice A0 R.N.length c0, .slice A1 R.L.length c1, .slice A2 R.Cov.length c2, .slice A3 R.Dead.length c3, .slice A4 R.Above.length c4, .slice A5 R.Firsts.length c5] := by
 obtain ⟨A0, c0, A1, c1, A2, c2, A3, c3, A4, c4, A5, c5, e, _⟩ := h.at
 exact ⟨A0, c0, A1, c1, A2, c2, A3, c3, A4, c4, A5, c5, e⟩
end
theorem KM_N (W : World) (base : Nat) (ok : Nat → Prop) (x : Node) (cs : List Value) (h : kN.K W x cs) : kN.M W base ok x cs := by
 obtain rfl := k36_open h
 exact k36_mkM W base ok x
theorem KM_L (W : World) (base : Nat) (ok : Nat → Prop) (x : RItem) (cs : List Value) (h : kL.K W x cs) : kL.M W base ok x cs := by
 obtain rfl := k81_open h
 exact k81_mkM W base ok x
theorem KM_I (W : World) (base : Nat) (ok : Nat → Prop) (x : Int) (cs : List Value) (h : kI.K W x cs) : kI.M W base ok x cs := h
theorem KM_B (W : World) (base : Nat) (ok : Nat → Prop) (x : Bool) (cs : List Value) (h : Kd.bool.K W x cs) : Kd.bool.M W base ok x cs := h
section
variable {P : Program} {ops : Array Oper} {rest : List Oper} {o : Oper} {a : Act} {Q : Exit → Act → World → Prop} {α : Type}
theorem R_made (d : Kd α) (e : Nat) (w : World) (ok : Nat → Prop) (hok : ∀ k, w.heap.size ≤ k → ok k) : d.R e (w.alloc (.cells #[] e)) w.heap.size ok (.slice (some ⟨w.heap.size, 0, none⟩) 0 0) [] :=
 ⟨fun k hk => by (obtain rfl : w.heap.size = k := by (simpa [Value.ownBlock] using hk)); exact hok _ (Nat.le_refl _), [], World.ownsRow_made w #[] 0 (Nat.le_refl _) (Nat.zero_le _) (by simp), Reps.none _ _⟩
theorem wp_copy (d : Kd α) (hKM : ∀ W base ok x cs, d.K W x cs → d.M W base ok x cs) {w1 : World} (hgd : o.guard = none) (s x : Operand) (t e : TypeId) (z : Value) (bytes : Nat)
  (ho : o.op = .call { callee := .builtin .append, args := #[s, x], argTypes := #[t, t] })
  (ht : P.underlying t = some (.slice e)) (hinfo : (P.info? e).map (fun i => (i.zero, i.size, i.bytes)) = some (some z, d.sz, bytes)) (hz : z.cells.size = d.sz) (hs0 : 0 < d.sz) (hb0 : 0 < bytes)
  (H : Nat) (hH : w1.heap.size = H) (A : Option Addr) (m c : Nat) (ys : List α) (hs : a.eval s = .slice (some ⟨H, 0, none⟩) 0 0) (hx : a.eval x = .slice A m c) (hC : d.C w1 A m ys) (hl : m * bytes ≤ 140737488355328)
  (h : ∀ v1 w2, d.R e w2 H (fun k => H ≤ k) v1 ys → Below H w1 w2 → wpList P ops Q rest (a.put o.dst v1) w2) : wpList P ops Q (o :: rest) a (w1.alloc (.cells #[] e)) := by
 subst hH
 have hal : Below w1.heap.size w1 (w1.alloc (.cells #[] e)) := (Below.refl _ w1).alloc (Nat.le_refl _) _
 refine Kd.R_append_rows d (Rr := fun x cs => d.K (w1.alloc (.cells #[] e)) x cs) (w0 := w1) w1.heap.size hgd s x t e z bytes ho ht hinfo hz hs0 hb0 _ [] ys A m c (fun k => w1.heap.size ≤ k) (fun _ => False) hs hx
  (R_made d e w1 _ (fun k hk => hk)) (Kd.C_below hC hal) (fun x cs hk => hKM _ _ _ x cs hk) (fun _ hk => hk.elim) (fun k hk => by simp at hk; omega) hal (by simp) (by simpa using hl) ?_
 intro v1 w2 hR hB _ _
 exact h v1 w2 hR hB
end
theorem set_one (W : World) (g i : Nat) (u : Value) : W.setCells g i [u] = W.setCell ⟨g, i, none⟩ u := rfl
section
variable {R : Ref} {w : World} {ok : Nat → Prop} {A0 A1 A2 A3 A4 A5 : Option Addr} {n0 n1 n2 n3 n4 n5 c0 c1 c2 c3 c4 c5 : Nat}
theorem RefV.bound {vs : Array Value} (h : RefV R w ok vs) : RefV R w (fun k => ok k ∧ k < w.heap.size) vs := by
 obtain ⟨v0, v1, v2, v3, v4, v5, rfl, h0, h1, h2, h3, h4, h5⟩ := h
 exact ⟨_, _, _, _, _, _, rfl, Kd.V_bound h0, Kd.V_bound h1, Kd.V_bound h2, Kd.V_bound h3, Kd.V_bound h4, Kd.V_bound h5⟩
theorem RefV.vs {v0 v1 v2 v3 v4 v5 : Value} (h : RefV R w ok #[v0, v1, v2, v3, v4, v5]) : Kd.V kN 0 w 0 ok v0 R.N ∧ Kd.V kL 0 w 0 ok v1 R.L ∧ Kd.V kI 0 w 0 ok v2 R.Cov ∧ Kd.V Kd.bool 0 w 0 ok v3 R.Dead ∧ Kd.V kI 0 w 0 ok v4 R.Above ∧ Kd.V kI 0 w 0 ok v5 R.Firsts := by
 obtain ⟨u0, u1, u2, u3, u4, u5, e, h0, h1, h2, h3, h4, h5⟩ := h
 injection e with e
 simp only [List.cons.injEq] at e
 obtain ⟨rfl, rfl, rfl, rfl, rfl, rfl, _⟩ := e
 exact ⟨h0, h1, h2, h3, h4, h5⟩
theorem V_C {α : Type} {d : Kd α} {e base n c : Nat} {A : Option Addr} {xs : List α} (h : Kd.V d e w base ok (.slice A n c) xs) : d.C w A n xs := by
 obtain ⟨h1, _, h3⟩ := Kd.V_reads' h
 rw [h1]; exact h3
end
theorem R_form {α : Type} {d : Kd α} {e : Nat} {w : World} {base : Nat} {ok : Nat → Prop} {v : Value} {xs : List α} (h : d.R e w base ok v xs) (hp : 0 < xs.length) : ∃ g cap, v = .slice (some ⟨g, 0, none⟩) xs.length cap ∧ g < w.heap.size ∧ base ≤ g ∧ ok g := by
 obtain ⟨hok, inner, ho, hr⟩ := h
 obtain ⟨g, cap, hv, _⟩ := ho.form hp
 exact ⟨g, cap, hv, own_lt ho g (by rw [hv]; rfl), own_base ho g (by rw [hv]; rfl), hok g (by rw [hv]; rfl)⟩
abbrev TL : Nat := 81
theorem infoL : (Try.prog.info? TL).map (fun i => (i.zero, i.size, i.bytes)) = some (some (.agg #[.int .i64 0, .string ⟨#[]⟩, .int .i64 0]), 3, 32) := by kernel_rfl
section
variable {P : Program} {ops : Array Oper} {o : Oper} {a : Act} {Q : Exit → Act → World → Prop} {Kc : Act → World → Prop} {α : Type}
theorem step_C (d : Kd α) (hKM : ∀ W base ok x cs, d.K W x cs → d.M W base ok x cs) {w0 W : World} (base : Nat) (hw : Region.wanted o (yielded ops a.tmps) = true) (s x : Operand) (t e : TypeId) (z : Value) (bytes : Nat)
  (ho : o.op = .call { callee := .builtin .append, args := #[s, x], argTypes := #[t, t] })
  (ht : P.underlying t = some (.slice e)) (hinfo : (P.info? e).map (fun i => (i.zero, i.size, i.bytes)) = some (some z, d.sz, bytes)) (hz : z.cells.size = d.sz) (hs0 : 0 < d.sz) (hb0 : 0 < bytes)
  (v : Value) (xs ys : List α) (A : Option Addr) (m c : Nat) (ok : Nat → Prop) (hs : a.eval s = v) (hx : a.eval x = .slice A m c)
  (HO : d.R e W base ok v xs) (hC : d.C W A m ys) (hfresh : ∀ k, W.heap.size ≤ k → ok k) (HB : Below base w0 W) (hbase : base ≤ W.heap.size) (hl : (xs.length + m) * bytes ≤ 140737488355328)
  (h : ∀ v1 w1, d.R e w1 base ok v1 (xs ++ ys) → Below base w0 w1 → W.grownBy w1 v.ownBlock → Kc (a.put o.dst v1) w1) :
  if Region.wanted o (yielded ops a.tmps) = true then Oper.wp P o a W Kc Q else Kc (a.put o.dst undef) W :=
 Kd.R_append_rows_step d (Rr := fun x cs => d.K W x cs) (w0 := w0) base hw s x t e z bytes ho ht hinfo hz hs0 hb0 v xs ys A m c ok (fun _ => False) hs hx HO hC (fun x cs hk => hKM _ _ _ x cs hk) (fun _ hk => hk.elim) hfresh HB hbase hl
  (fun v1 w1 h1 h2 h3 _ => h v1 w1 h1 h2 h3)
end
theorem one_C {α : Type} {d : Kd α} {W : World} {gi e : Nat} {x : α} {cs : List Value} (h : W.heap[gi]? = some (.cells cs.toArray e (0, 0))) (hK : d.K W x cs) : d.C W (some ⟨gi, 0, none⟩) 1 [x] := by
 refine ⟨rfl, by decide, fun _ => ⟨_, rfl, fun j p hj => ?_⟩⟩
 have hj0 : j = 0 := by have := (List.getElem?_eq_some_iff.1 hj).1; simp at this; exact this
 subst hj0
 obtain rfl : x = p := by simpa using hj
 refine ⟨_, d.K_len hK, hK, fun i u hu => ?_⟩
 rw [Addr.add_lit]
 simp only [Nat.zero_mul, Nat.zero_add]
 rw [blk_cell h i]
 simpa using hu
def JoinedG {α : Type} (d : Kd α) (e : Nat) (wd : World) (L : List α) (cs : Array Value) (s : Value × Value × Value) (w' : World) : Prop :=
 ∃ gi, s.2.2 = .slice (some ⟨gi, 0, none⟩) 1 1 ∧ d.R e w' wd.heap.size (fun k => wd.heap.size ≤ k ∧ k ≠ gi) s.2.1 L ∧ w'.heap[gi]? = some (.cells cs e (0, 0)) ∧ wd.heap.size ≤ gi ∧ Below wd.heap.size wd w'
theorem below_all {w : World} (o : Obj) : Below w.heap.size w (w.alloc o) := (Below.refl _ w).alloc (Nat.le_refl _) _
abbrev TR : Nat := 48
theorem boxR_cells {W : World} {b : Nat} {v0 v1 v2 v3 v4 v5 : Value} (h : W.heap[b]? = some (.cells #[v0, v1, v2, v3, v4, v5] TR (0, 0))) :
  W.cell? ⟨b, 0, none⟩ = some v0 ∧ W.cell? ⟨b, 1, none⟩ = some v1 ∧ W.cell? ⟨b, 2, none⟩ = some v2 ∧ W.cell? ⟨b, 3, none⟩ = some v3 ∧ W.cell? ⟨b, 4, none⟩ = some v4 ∧ W.cell? ⟨b, 5, none⟩ = some v5 :=
 ⟨(blk_cell h 0).trans rfl, (blk_cell h 1).trans rfl, (blk_cell h 2).trans rfl, (blk_cell h 3).trans rfl, (blk_cell h 4).trans rfl, (blk_cell h 5).trans rfl⟩
end Go.Proofs.Ytlfldoghomnbkaa.QVfs
