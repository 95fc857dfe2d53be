import Derived.Test.YtlfldoghomnbkaaKXVr9
-- Texts of this seat, what the claim does not reach struck out by a program.
namespace Go.Proofs.Ytlfldoghomnbkaa.QVfs
open Go.RowKit Go.Proofs.YtlfldoghomnbkaaW.PrintWords Go.Proofs.YtlfldoghomnbkaaW.PrintLast Go.Proofs.YtlfldoghomnbkaaW.PrintMore
set_option linter.unusedVariables false
set_option linter.unusedSimpArgs false
abbrev kN : Kd Node := k36
abbrev kL : Kd zy_ := k81
abbrev kI : Kd Int := Kd.int .i64
def RefV (R : Ref) (w : World) (ok : Nat → Prop) (vs : Array Value) : Prop :=
 ∃ v0 v1 v2 v3 v4 v5, vs = #[v0, v1, v2, v3, v4, v5] ∧ Kd.V kN 0 w 0 ok v0 R.N ∧ Kd.V kL 0 w 0 ok v1 R.L ∧ Kd.V kI 0 w 0 ok v2 R.Cov ∧ Kd.V Kd.bool 0 w 0 ok v3 R.Dead ∧ Kd.V kI 0 w 0 ok v4 R.Above ∧ Kd.V kI 0 w 0 ok v5 R.Firsts
theorem V_re {α : Type} {d : Kd α} {e e' : Nat} {w : World} {base base' : Nat} {ok ok' : Nat → Prop} {v : Value} {xs : List α} (h : Kd.V d e w base ok v xs) (hok : ∀ k, ok k → ok' k) : Kd.V d e' w base' ok' v xs := by
 obtain ⟨A, c, hv, hl, hf⟩ := h
 exact ⟨A, c, hv, hl, Kd.F_mono hf hok⟩
theorem RefAt.V {R : Ref} {w : World} {vs : Array Value} (h : RefAt R w vs) : RefV R w (fun k => k < w.heap.size) vs := by
 obtain ⟨A0, c0, A1, c1, A2, c2, A3, c3, A4, c4, A5, c5, rfl, h0, h1, h2, h3, h4, h5⟩ := h
 exact ⟨_, _, _, _, _, _, rfl, Kd.V_mk h0.2 (Kd.C_F k36_heap h0.1), Kd.V_mk h1.2 (Kd.C_F k81_heap h1.1), Kd.V_mk h2.2 (Kd.C_F (Kd.heap_int .i64) h2.1), Kd.V_mk h3.2 (Kd.C_F Kd.heap_bool h3.1), Kd.V_mk h4.2 (Kd.C_F (Kd.heap_int .i64) h4.1), Kd.V_mk h5.2 (Kd.C_F (Kd.heap_int .i64) h5.1)⟩
section
variable {R : Ref} {w w1 : World} {ok ok' : Nat → Prop} {vs : Array Value}
theorem RefV.at (h : RefV R w ok vs) : RefAt R w vs := by
 obtain ⟨v0, v1, v2, v3, v4, v5, rfl, h0, h1, h2, h3, h4, h5⟩ := h
 exact RefAt.mk' (V_row h0) (V_row h1) (V_row h2) (V_row h3) (V_row h4) (V_row h5)
theorem RefV.mono (h : RefV R w ok vs) (hok : ∀ k, ok k → ok' k) : RefV R w ok' vs := by
 obtain ⟨v0, v1, v2, v3, v4, v5, rfl, h0, h1, h2, h3, h4, h5⟩ := h
 exact ⟨_, _, _, _, _, _, rfl, V_re h0 hok, V_re h1 hok, V_re h2 hok, V_re h3 hok, V_re h4 hok, V_re h5 hok⟩
theorem RefV.below (h : RefV R w ok vs) (hb : Below w.heap.size w w1) : RefV R w1 ok vs := by
 obtain ⟨v0, v1, v2, v3, v4, v5, rfl, h0, h1, h2, h3, h4, h5⟩ := h
 exact ⟨_, _, _, _, _, _, rfl, Kd.V_below h0 hb, Kd.V_below h1 hb, Kd.V_below h2 hb, Kd.V_below h3 hb, Kd.V_below h4 hb, Kd.V_below h5 hb⟩
theorem RefV.set (h : RefV R w ok vs) (b j : Nat) (u : Value) (hok : ∀ k, ok k → k ≠ b) : RefV R (w.setCell ⟨b, j, none⟩ u) ok vs := by
 obtain ⟨v0, v1, v2, v3, v4, v5, rfl, h0, h1, h2, h3, h4, h5⟩ := h
 exact ⟨_, _, _, _, _, _, rfl, Kd.V_far (p := ⟨b, j, none⟩) h0 hok u, Kd.V_far (p := ⟨b, j, none⟩) h1 hok u, Kd.V_far (p := ⟨b, j, none⟩) h2 hok u, Kd.V_far (p := ⟨b, j, none⟩) h3 hok u, Kd.V_far (p := ⟨b, j, none⟩) h4 hok u, Kd.V_far (p := ⟨b, j, none⟩) h5 hok u⟩
theorem RefV.form (h : RefV R w ok vs) : ∃ A0 c0 A1 c1 A2 c2 A3 c3 A4 c4 A5 c5, vs = #[.slice A0 R.N.length c0, .slice A1 R.L.length c1, .slice A2 R.Cov.length c2, .slice A3 R.Dead.length c3, .slice A4 R.Above.length c4, .slice A5 R.Firsts.length c5] := by
 obtain ⟨A0, c0, A1, c1, A2, c2, A3, c3, A4, c4, A5, c5, e, _⟩ := h.at
 exact ⟨A0, c0, A1, c1, A2, c2, A3, c3, A4, c4, A5, c5, e⟩
end
theorem addV_calls (R : Ref) (n : Node) (up : Int) (w : World) (ok : Nat → Prop) (vs : Array Value) (h : RefV R w ok vs) (hO : R.N.length ≤ 1000 ∧ R.Cov.length ≤ 1000 ∧ R.Dead.length ≤ 1000 ∧ R.Above.length ≤ 1000) :
  Calls Try.prog 32 #[.agg vs, .agg (encN n).toArray, .int .i64 up] w fun e w' => ∃ vs', e = .returned (.agg vs') ∧ RefV (R.add n up) w' (fun k => ok k ∨ w.heap.size ≤ k) vs' ∧ Below w.heap.size w w' := by
 obtain ⟨v0, v1, v2, v3, v4, v5, rfl, k0, k1, k2, k3, k4, k5⟩ := h
 obtain ⟨A0, c0, rfl, l0, h0⟩ := V_row k0
 obtain ⟨A1, c1, rfl, l1, h1⟩ := V_row k1
 obtain ⟨A2, c2, rfl, l2, h2⟩ := V_row k2
 obtain ⟨A3, c3, rfl, l3, h3⟩ := V_row k3
 obtain ⟨A4, c4, rfl, l4, h4⟩ := V_row k4
 obtain ⟨A5, c5, rfl, l5, h5⟩ := V_row k5
 refine (r6FS_add.calls 1001 A0 c0 R.N ok A1 c1 R.L A2 c2 R.Cov A3 c3 R.Dead A4 c4 R.Above ok A5 c5 R.Firsts n.f0 n.f1 n.f2 n.f3 n.f4 n.f5 n.f6 n.f7 n.f8 n.f9.f0 n.f9.f1 n.f9.f2 n.f10 up _ _ _ _ _ _ w h0 l0 k1 h2 l2 h3 l3 h4 l4 k5 (add_f R n up hO)).mono ?_
 rintro e w' ⟨v0, v1, v2, v3, v4, v5, rfl, r0, r1, r2, r3, r4, r5, hb⟩
 have fr : ∀ k, w.heap.size ≤ k → ok k ∨ w.heap.size ≤ k := fun k hk => Or.inr hk
 exact ⟨_, rfl, ⟨_, _, _, _, _, _, rfl, V_re (Kd.R_V (base' := 0) r0) fr, V_re r1 (fun k hk => hk.1.elim (fun q => Or.inl (q.elim id id)) Or.inr), V_re (Kd.R_V (base' := 0) r2) (fun k hk => fr k hk.1), V_re (Kd.R_V (base' := 0) r3) fr, V_re (Kd.R_V (base' := 0) r4) (fun k hk => fr k hk.1), V_re r5 (fun k hk => hk.1.elim (fun q => Or.inl (q.elim id id)) Or.inr)⟩, hb⟩
theorem deviceV_calls (R : Ref) (mode up : Int) (w : World) (ok : Nat → Prop) (vs : Array Value) (h : RefV R w ok vs) (hO : R.N.length ≤ 1000 ∧ R.Cov.length ≤ 1000 ∧ R.Dead.length ≤ 1000 ∧ R.Above.length ≤ 1000) (hF : R.Firsts.length ≤ 1000) :
  Calls Try.prog 30 #[.agg vs, .int .i64 mode, .int .i64 up] w fun e w' => ∃ vs', e = .returned (.agg vs') ∧ RefV (R.device mode up) w' (fun k => ok k ∨ w.heap.size ≤ k) vs' ∧ Below w.heap.size w w' := by
 obtain ⟨v0, v1, v2, v3, v4, v5, rfl, k0, k1, k2, k3, k4, k5⟩ := h
 obtain ⟨A0, c0, rfl, l0, h0⟩ := V_row k0
 obtain ⟨A1, c1, rfl, l1, h1⟩ := V_row k1
 obtain ⟨A2, c2, rfl, l2, h2⟩ := V_row k2
 obtain ⟨A3, c3, rfl, l3, h3⟩ := V_row k3
 obtain ⟨A4, c4, rfl, l4, h4⟩ := V_row k4
 obtain ⟨A5, c5, rfl, l5, h5⟩ := V_row k5
 refine (r6FS_device.calls 1001 A0 c0 R.N ok A1 c1 R.L A2 c2 R.Cov A3 c3 R.Dead A4 c4 R.Above A5 c5 R.Firsts mode up _ _ _ _ _ _ w h0 l0 k1 h2 l2 h3 l3 h4 l4 h5 l5 (device_f R mode up hO hF)).mono ?_
 rintro e w' ⟨v0, v1, v2, v3, v4, v5, rfl, r0, r1, r2, r3, r4, r5, hb⟩
 have fr : ∀ k, w.heap.size ≤ k → ok k ∨ w.heap.size ≤ k := fun k hk => Or.inr hk
 exact ⟨_, rfl, ⟨_, _, _, _, _, _, rfl, V_re (Kd.R_V (base' := 0) r0) fr, V_re r1 (fun k hk => hk.1), V_re (Kd.R_V (base' := 0) r2) (fun k hk => fr k hk.1), V_re (Kd.R_V (base' := 0) r3) fr, V_re (Kd.R_V (base' := 0) r4) (fun k hk => fr k hk.1), V_re r5 (fun k hk => hk.1)⟩, hb⟩
set_option maxHeartbeats 1000000 in
theorem bits_calls (m : Int) (w : World) : Calls Try.prog 33 #[.int .i64 m] w fun e w' => e = .returned (.int .i64 (modeR m)) ∧ w' = w := by
 have hf := bits_mode m
 unfold r6bits.f at hf
 have H := z1_.mk (Option.some.inj hf)
 clear hf
 go_enter Try.func33, Try.ntmps33
 go_wp2
 go_ret
 refine ⟨?_, rfl⟩
 rw [← H.out]; rfl
structure DoAt (b : Nat) (us : Array Value) (cs : Array Value) (W : World) : Prop where
 f : W.heap[b]? = some (.cells us TR (0, 0))
 c : W.heap[b + 1]? = some (.cells cs TC (0, 0))
 r : W.heap[b + 1 + 1]? = some (.cells #[.slice none 0 0, .slice none 0 0, .slice none 0 0, .slice none 0 0, .slice none 0 0, .slice none 0 0] TR (0, 0))
theorem DoAt.below {b : Nat} {us cs : Array Value} {W W1 : World} (h : DoAt b us cs W) (hb : Below W.heap.size W W1) : DoAt b us cs W1 :=
 ⟨(hb.block b (zj_ h.f)).trans h.f, (hb.block _ (zj_ h.c)).trans h.c, (hb.block _ (zj_ h.r)).trans h.r⟩
theorem DoAt.set {b : Nat} {us cs : Array Value} {W : World} (h : DoAt b us cs W) (j : Nat) (u : Value) : DoAt b (us.setIfInBounds j u) cs (W.setCell ⟨b, j, none⟩ u) :=
 ⟨blk_set h.f j u, blk_far h.c (p := ⟨b, j, none⟩) (show b + 1 ≠ b by omega) u, blk_far h.r (p := ⟨b, j, none⟩) (show b + 1 + 1 ≠ b by omega) u⟩
def ok3 (ok : Nat → Prop) (b k : Nat) : Prop := (ok k ∧ k < b) ∨ b + 3 ≤ k
theorem KM_N (W : World) (base : Nat) (ok : Nat → Prop) (x : Node) (cs : List Value) (h : kN.K W x cs) : kN.M W base ok x cs := by
 obtain rfl := k36_open h
 exact k36_mkM W base ok x
theorem KM_L (W : World) (base : Nat) (ok : Nat → Prop) (x : zy_) (cs : List Value) (h : kL.K W x cs) : kL.M W base ok x cs := by
 obtain rfl := k81_open h
 exact k81_mkM W base ok x
theorem KM_I (W : World) (base : Nat) (ok : Nat → Prop) (x : Int) (cs : List Value) (h : kI.K W x cs) : kI.M W base ok x cs := h
theorem KM_B (W : World) (base : Nat) (ok : Nat → Prop) (x : Bool) (cs : List Value) (h : Kd.bool.K W x cs) : Kd.bool.M W base ok x cs := h
section
variable {P : Program} {ops : Array Oper} {rest : List Oper} {o : Oper} {a : Act} {Q : Exit → Act → World → Prop} {α : Type}
theorem R_made (d : Kd α) (e : Nat) (w : World) (ok : Nat → Prop) (hok : ∀ k, w.heap.size ≤ k → ok k) : d.R e (w.alloc (.cells #[] e)) w.heap.size ok (.slice (some ⟨w.heap.size, 0, none⟩) 0 0) [] :=
 ⟨fun k hk => by (obtain rfl : w.heap.size = k := by simpa [Value.ownBlock] using hk); exact hok _ (y2_ _), [], World.ownsRow_made w #[] 0 (y2_ _) (Nat.zero_le _) (by simp), Reps.none _ _⟩
theorem wp_copy (d : Kd α) (hKM : ∀ W base ok x cs, d.K W x cs → d.M W base ok x cs) {w1 : World} (hgd : o.guard = none) (s x : Operand) (t e : TypeId) (z : Value) (bytes : Nat)
  (ho : o.op = .call { callee := .builtin .append, args := #[s, x], argTypes := #[t, t] })
  (ht : P.underlying t = some (.slice e)) (hinfo : (P.info? e).map (fun i => (i.zero, i.size, i.bytes)) = some (some z, d.sz, bytes)) (hz : z.cells.size = d.sz) (hs0 : 0 < d.sz) (hb0 : 0 < bytes)
  (H : Nat) (hH : w1.heap.size = H) (A : Option Addr) (m c : Nat) (ys : List α) (hs : a.eval s = .slice (some ⟨H, 0, none⟩) 0 0) (hx : a.eval x = .slice A m c) (hC : d.C w1 A m ys) (hl : m * bytes ≤ 140737488355328)
  (h : ∀ v1 w2, d.R e w2 H (fun k => H ≤ k) v1 ys → Below H w1 w2 → wpList P ops Q rest (a.put o.dst v1) w2) : wpList P ops Q (o :: rest) a (w1.alloc (.cells #[] e)) := by
 subst hH
 have hal : Below w1.heap.size w1 (w1.alloc (.cells #[] e)) := (y6_ _ w1).alloc (y2_ _) _
 refine Kd.R_append_rows d (Rr := fun x cs => d.K (w1.alloc (.cells #[] e)) x cs) (w0 := w1) w1.heap.size hgd s x t e z bytes ho ht hinfo hz hs0 hb0 _ [] ys A m c (fun k => w1.heap.size ≤ k) (fun _ => False) hs hx
  (R_made d e w1 _ (fun k hk => hk)) (Kd.C_below hC hal) (fun x cs hk => hKM _ _ _ x cs hk) (fun _ hk => hk.elim) (fun k hk => by simp at hk; omega) hal (by simp) (by simpa using hl) ?_
 intro v1 w2 hR hB _ _
 exact h v1 w2 hR hB
end
theorem set_one (W : World) (g i : Nat) (u : Value) : W.setCells g i [u] = W.setCell ⟨g, i, none⟩ u := rfl
section
variable {R : Ref} {w : World} {ok : Nat → Prop} {A0 A1 A2 A3 A4 A5 : Option Addr} {n0 n1 n2 n3 n4 n5 c0 c1 c2 c3 c4 c5 : Nat}
theorem RefV.bound {vs : Array Value} (h : RefV R w ok vs) : RefV R w (fun k => ok k ∧ k < w.heap.size) vs := by
 obtain ⟨v0, v1, v2, v3, v4, v5, rfl, h0, h1, h2, h3, h4, h5⟩ := h
 exact ⟨_, _, _, _, _, _, rfl, Kd.V_bound h0, Kd.V_bound h1, Kd.V_bound h2, Kd.V_bound h3, Kd.V_bound h4, Kd.V_bound h5⟩
theorem RefV.vs {v0 v1 v2 v3 v4 v5 : Value} (h : RefV R w ok #[v0, v1, v2, v3, v4, v5]) : Kd.V kN 0 w 0 ok v0 R.N ∧ Kd.V kL 0 w 0 ok v1 R.L ∧ Kd.V kI 0 w 0 ok v2 R.Cov ∧ Kd.V Kd.bool 0 w 0 ok v3 R.Dead ∧ Kd.V kI 0 w 0 ok v4 R.Above ∧ Kd.V kI 0 w 0 ok v5 R.Firsts := by
 obtain ⟨u0, u1, u2, u3, u4, u5, e, h0, h1, h2, h3, h4, h5⟩ := h
 injection e with e
 simp only [List.cons.injEq] at e
 obtain ⟨rfl, rfl, rfl, rfl, rfl, rfl, _⟩ := e
 exact ⟨h0, h1, h2, h3, h4, h5⟩
theorem V_C {α : Type} {d : Kd α} {e base n c : Nat} {A : Option Addr} {xs : List α} (h : Kd.V d e w base ok (.slice A n c) xs) : d.C w A n xs := by
 obtain ⟨h1, _, h3⟩ := Kd.V_reads' h
 rw [h1]; exact h3
end
theorem R_form {α : Type} {d : Kd α} {e : Nat} {w : World} {base : Nat} {ok : Nat → Prop} {v : Value} {xs : List α} (h : d.R e w base ok v xs) (hp : 0 < xs.length) : ∃ g cap, v = .slice (some ⟨g, 0, none⟩) xs.length cap ∧ g < w.heap.size ∧ base ≤ g ∧ ok g := by
 obtain ⟨hok, inner, ho, hr⟩ := h
 obtain ⟨g, cap, hv, _⟩ := ho.form hp
 exact ⟨g, cap, hv, own_lt ho g (by rw [hv]; rfl), own_base ho g (by rw [hv]; rfl), hok g (by rw [hv]; rfl)⟩
abbrev TL : Nat := 81
theorem infoL : (Try.prog.info? TL).map (fun i => (i.zero, i.size, i.bytes)) = some (some (.agg #[.int .i64 0, .string ⟨#[]⟩, .int .i64 0]), 3, 32) := by kernel_rfl
section
variable {P : Program} {ops : Array Oper} {o : Oper} {a : Act} {Q : Exit → Act → World → Prop} {Kc : Act → World → Prop} {α : Type}
theorem step_C (d : Kd α) (hKM : ∀ W base ok x cs, d.K W x cs → d.M W base ok x cs) {w0 W : World} (base : Nat) (hw : Region.wanted o (yielded ops a.tmps) = true) (s x : Operand) (t e : TypeId) (z : Value) (bytes : Nat)
  (ho : o.op = .call { callee := .builtin .append, args := #[s, x], argTypes := #[t, t] })
  (ht : P.underlying t = some (.slice e)) (hinfo : (P.info? e).map (fun i => (i.zero, i.size, i.bytes)) = some (some z, d.sz, bytes)) (hz : z.cells.size = d.sz) (hs0 : 0 < d.sz) (hb0 : 0 < bytes)
  (v : Value) (xs ys : List α) (A : Option Addr) (m c : Nat) (ok : Nat → Prop) (hs : a.eval s = v) (hx : a.eval x = .slice A m c)
  (HO : d.R e W base ok v xs) (hC : d.C W A m ys) (hfresh : ∀ k, W.heap.size ≤ k → ok k) (HB : Below base w0 W) (hbase : base ≤ W.heap.size) (hl : (xs.length + m) * bytes ≤ 140737488355328)
  (h : ∀ v1 w1, d.R e w1 base ok v1 (xs ++ ys) → Below base w0 w1 → W.grownBy w1 v.ownBlock → Kc (a.put o.dst v1) w1) :
  if Region.wanted o (yielded ops a.tmps) = true then Oper.wp P o a W Kc Q else Kc (a.put o.dst undef) W :=
 Kd.R_append_rows_step d (Rr := fun x cs => d.K W x cs) (w0 := w0) base hw s x t e z bytes ho ht hinfo hz hs0 hb0 v xs ys A m c ok (fun _ => False) hs hx HO hC (fun x cs hk => hKM _ _ _ x cs hk) (fun _ hk => hk.elim) hfresh HB hbase hl
  (fun v1 w1 h1 h2 h3 _ => h v1 w1 h1 h2 h3)
end
theorem item_C {W : World} {gi : Nat} {x : zy_} (h : W.heap[gi]? = some (.cells #[.int .i64 x.f0, .string x.f1.f0, .int .i64 x.f1.f1] TL (0, 0))) : kL.C W (some ⟨gi, 0, none⟩) 1 [x] := by
 refine ⟨rfl, by decide, fun _ => ⟨_, rfl, fun j p hj => ?_⟩⟩
 have hj0 : j = 0 := by have := (List.getElem?_eq_some_iff.1 hj).1; simp at this; exact this
 subst hj0
 obtain rfl : x = p := by simpa using hj
 refine ⟨_, rfl, k81_mk W x, fun i u hu => ?_⟩
 rw [Addr.add_lit]
 simp only [Nat.zero_mul, Nat.zero_add]
 rw [z4_ h i]
 simpa using hu
def Joined (wd : World) (L : List zy_) (x : zy_) (s : Value × Value × Value) (w' : World) : Prop :=
 ∃ gi, s.2.2 = .slice (some ⟨gi, 0, none⟩) 1 1 ∧ kL.R TL w' wd.heap.size (fun k => wd.heap.size ≤ k ∧ k ≠ gi) s.2.1 L ∧ w'.heap[gi]? = some (.cells #[.int .i64 x.f0, .string x.f1.f0, .int .i64 x.f1.f1] TL (0, 0)) ∧ wd.heap.size ≤ gi ∧ Below wd.heap.size wd w'
theorem zk_ {w : World} (o : Obj) : Below w.heap.size w (w.alloc o) := (y6_ _ w).alloc (y2_ _) _
end Go.Proofs.Ytlfldoghomnbkaa.QVfs
