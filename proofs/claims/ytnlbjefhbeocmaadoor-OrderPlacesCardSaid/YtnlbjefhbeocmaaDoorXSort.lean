/- order.Sort and its closure that calls itself, by hand: what they compute, as a merge of two halves. -/
import Derived.Test.YtnlbjefhbeocmaaDoorQOrderWhole
import Derived.Deep.RegionHeld3
import Derived.Deep.AppendLies
import Derived.Maps.AppendAt
import Derived.Deep.DrawnRows
import Derived.LoopTactic
namespace Go.Proofs.YtnlbjefhbeocmaaDoor.QOrderCompares
open Go.RowKit Go.Lib Go.Proofs.YtnlbjefhbeocmaaDoorW.PrintWords Go.Proofs.YtnlbjefhbeocmaaDoorW.PrintLast Go.Proofs.YtnlbjefhbeocmaaDoorW.PrintMore
open Go.Proofs.YtnlbjefhbeocmaaDoor.Ext
set_option linter.unusedVariables false
set_option linter.unusedSimpArgs false

/-- Two lists of places, put together in order behind what is out already. -/
def order_Sort.m : Nat → Int → Bool → Bool → List S23 → List Int → List Int → List Int → Option (List Int)
  | 0, _, _, _, _, _, _, _ => none
  | k + 1, o, rev, dirs, l, a, b, out =>
    if 0 < a.length ∧ 0 < b.length then
      (if 0 ≤ rd a 0 ∧ rd a 0 < (l.length : Int) ∧ 0 ≤ rd b 0 ∧ rd b 0 < (l.length : Int) then
        (order_whole.f k o rev dirs (rd_T23 l (rd a 0)).f0 (rd_T23 l (rd a 0)).f1 (rd_T23 l (rd a 0)).f2 (rd_T23 l (rd a 0)).f3 (rd_T23 l (rd b 0)).f0 (rd_T23 l (rd b 0)).f1 (rd_T23 l (rd b 0)).f2 (rd_T23 l (rd b 0)).f3).bind fun c =>
          if c ≤ 0 then order_Sort.m k o rev dirs l (a.drop 1) b (out ++ [rd a 0]) else order_Sort.m k o rev dirs l a (b.drop 1) (out ++ [rd b 0])
      else none)
    else some (out ++ a ++ b)
/-- The places from one to another, in order. -/
def order_Sort.s : Nat → Int → Bool → Bool → List S23 → Int → Int → Option (List Int)
  | 0, _, _, _, _, _, _ => none
  | k + 1, o, rev, dirs, l, p, q =>
    if 0 ≤ p ∧ p ≤ q ∧ q ≤ 1000000 then
      (if q - p < 2 then some (if q - p = 1 then [p] else [])
      else (order_Sort.s k o rev dirs l p (p + (q - p) / 2)).bind fun a => (order_Sort.s k o rev dirs l (p + (q - p) / 2) q).bind fun b =>
        if 0 < a.length ∧ 0 < b.length ∧ a.length + b.length ≤ 1000000 then order_Sort.m k o rev dirs l a b [] else none)
    else none
def order_Sort.f (k : Nat) (o : Int) (rev dirs : Bool) (l : List S23) : Option (List Int) := order_Sort.s k o rev dirs l 0 (l.length : Int)
theorem order_Sort.mono_m : ∀ k o rev dirs l a b out, LeO (order_Sort.m k o rev dirs l a b out) (order_Sort.m (k + 1) o rev dirs l a b out)
  | 0 => fun _ _ _ _ _ _ _ r h => by simp [order_Sort.m] at h
  | k + 1 => by
    have ih := order_Sort.mono_m k
    intro o rev dirs l a b out
    unfold order_Sort.m
    repeat' first
      | (with_reducible exact ih _ _ _ _ _ _ _)
      | (with_reducible exact LeO.refl _)
      | (with_reducible exact LeO.none _)
      | (with_reducible refine LeO.ite ?_ ?_)
      | (with_reducible refine LeO.bind ?_ (fun _ => ?_))
      | exact order_whole.mono _ _ _ _ _ _ _ _ _ _ _ _
theorem order_Sort.mono_s : ∀ k o rev dirs l p q, LeO (order_Sort.s k o rev dirs l p q) (order_Sort.s (k + 1) o rev dirs l p q)
  | 0 => fun _ _ _ _ _ _ r h => by simp [order_Sort.s] at h
  | k + 1 => by
    have ih := order_Sort.mono_s k
    intro o rev dirs l p q
    unfold order_Sort.s
    repeat' first
      | (with_reducible exact ih _ _ _ _ _ _)
      | (with_reducible exact LeO.refl _)
      | (with_reducible exact LeO.none _)
      | (with_reducible refine LeO.ite ?_ ?_)
      | (with_reducible refine LeO.bind ?_ (fun _ => ?_))
      | exact order_Sort.mono_m _ _ _ _ _ _ _ _
theorem order_Sort.mono : ∀ o rev dirs l k, LeO (order_Sort.f k o rev dirs l) (order_Sort.f (k + 1) o rev dirs l) := fun o rev dirs l k => order_Sort.mono_s k o rev dirs l 0 _

abbrev pt (g : Nat) : Value := .pointer (some ⟨g, 0, none⟩)
/-- The captured variables, each in a block of its own. -/
structure Caught (w : World) (o : Int) (rev dirs : Bool) (A : Option Addr) (c : Nat) (l : List S23) (g2 g3 g4 g5 g6 : Nat) : Prop where
  h2 : w.heap[g2]? = some (.cells #[.func (.func 28) #[] #[.pointer (some ⟨g2, 0, none⟩), .pointer (some ⟨g3, 0, none⟩), .pointer (some ⟨g4, 0, none⟩), .pointer (some ⟨g5, 0, none⟩), .pointer (some ⟨g6, 0, none⟩)]] 50 (0, 0))
  h3 : w.heap[g3]? = some (.cells #[.int .i64 o] 3 (0, 0))
  h4 : w.heap[g4]? = some (.cells #[.bool rev] 4 (0, 0))
  h5 : w.heap[g5]? = some (.cells #[.bool dirs] 4 (0, 0))
  h6 : w.heap[g6]? = some (.cells #[.slice A l.length c] 26 (0, 0))
  hl : Kd.C k23 w A l.length l
  hc : l.length ≤ c
theorem Caught.below {w w' : World} {o : Int} {rev dirs : Bool} {A : Option Addr} {c : Nat} {l : List S23} {g2 g3 g4 g5 g6 : Nat} (h : Caught w o rev dirs A c l g2 g3 g4 g5 g6) (hb : Below w.heap.size w w') : Caught w' o rev dirs A c l g2 g3 g4 g5 g6 :=
  ⟨(hb.block _ (blk_lt h.h2)).trans h.h2, (hb.block _ (blk_lt h.h3)).trans h.h3, (hb.block _ (blk_lt h.h4)).trans h.h4, (hb.block _ (blk_lt h.h5)).trans h.h5, (hb.block _ (blk_lt h.h6)).trans h.h6, Kd.C_below h.hl hb, h.hc⟩
/-- A slice of whole numbers that is read: where it lies, what it holds. -/
structure Rd (w : World) (B : Nat) (ga oa n : Nat) (xs : List Int) (c : Nat) : Prop where
  len : xs.length = n
  lt : ga < B
  le : n ≤ c
  cap : c ≤ 9223372036854775807
  at_ : ∀ (j : Nat) (x : Int), xs[j]? = some x → w.cell? ⟨ga, oa + j, none⟩ = some (.int .i64 x)
theorem Rd.below {w w' : World} {B ga oa n c : Nat} {xs : List Int} (h : Rd w B ga oa n xs c) (hb : Below B w w') : Rd w' B ga oa n xs c :=
  ⟨h.len, h.lt, h.le, h.cap, fun j x hj => (hb.cell h.lt).trans (h.at_ j x hj)⟩
theorem Rd.more {w : World} {B B' ga oa n c : Nat} {xs : List Int} (h : Rd w B ga oa n xs c) (hB : B ≤ B') : Rd w B' ga oa n xs c :=
  ⟨h.len, Nat.lt_of_lt_of_le h.lt hB, h.le, h.cap, h.at_⟩
theorem Rd.head {w : World} {B ga oa n c : Nat} {xs : List Int} (h : Rd w B ga oa n xs c) (hn : 0 < n) : w.cell? ⟨ga, oa, none⟩ = some (.int .i64 (rd xs 0)) := by
  have hl := h.len
  cases xs with
  | nil => simp at hl; omega
  | cons x xs => exact h.at_ 0 x rfl
theorem Rd.tail {w : World} {B ga oa n c : Nat} {xs : List Int} (h : Rd w B ga oa n xs c) (hn : 0 < n) : Rd w B ga (oa + 1) (n - 1) (xs.drop 1) (c - 1) :=
  ⟨by rw [List.length_drop, h.len], h.lt, by have := h.le; omega, by have := h.cap; omega, fun j x hj => by
    rw [List.getElem?_drop] at hj
    have := h.at_ _ x hj
    rw [show oa + 1 + j = oa + (1 + j) from by omega]
    exact this⟩
theorem Rd.tail0 {w : World} {B ga oa n c : Nat} {xs : List Int} (h : Rd w B ga oa n xs c) (hn : 0 < n) (hc : c = 1) : Rd w B ga oa (n - 1) (xs.drop 1) (c - 1) := by
  have h1 := h.le
  have h2 := h.len
  have e : xs.drop 1 = [] := List.drop_eq_nil_of_le (by omega)
  exact ⟨by rw [List.length_drop, h2], h.lt, by omega, by have := h.cap; omega, fun j x hj => by rw [e] at hj; simp at hj⟩
theorem Rd.of_R {w : World} {base : Nat} {ok : Nat → Prop} {v : Value} {xs : List Int} (h : Kd.R (Kd.int .i64) 3 w base ok v xs) (hn : 0 < xs.length) :
    ∃ g c, v = .slice (some ⟨g, 0, none⟩) xs.length c ∧ Rd w w.heap.size g 0 xs.length xs c := by
  have ho := Kd.own_of_R h
  rcases ho.2 with ⟨_, h0⟩ | ⟨g, cap, cur, rfl, _, hh, hle, hcap, hcur, ht⟩
  · omega
  · refine ⟨g, cap, rfl, rfl, blk_lt hh, hle, by unfold maxLen at hcap; exact hcap, fun j x hj => ?_⟩
    rw [Nat.zero_add, blk_cell hh j]
    have hjl : j < xs.length := by
      rcases Nat.lt_or_ge j xs.length with h' | h'
      · exact h'
      · rw [List.getElem?_eq_none h'] at hj; cases hj
    have e : (cur.toList.take (xs.length * 1))[j]? = some (.int .i64 x) := by
      rw [ht]; unfold encs; rw [List.getElem?_map, hj]; rfl
    rw [List.getElem?_take_of_lt (by omega)] at e
    simpa using e
theorem Rd.news {w : World} {B ga oa n c : Nat} {xs : List Int} (h : Rd w B ga oa n xs c) : ∀ j u, (nums .i64 xs)[j]? = some u → w.cell? ((⟨ga, oa, none⟩ : Addr).add j) = some u := by
  intro j u hj
  unfold nums at hj
  rw [List.getElem?_map] at hj
  obtain ⟨x, hx, rfl⟩ := Option.map_eq_some_iff.1 hj
  rw [add_at0]
  exact h.at_ j x hx
theorem nums_one (xs : List Int) : ∀ u ∈ nums .i64 xs, u.oneCell' = true := by
  intro u hu
  obtain ⟨x, _, rfl⟩ := List.mem_map.1 hu
  rfl
def sliceLen : Value → Nat
  | .slice _ n _ => n
  | _ => 0
theorem own_one (W : World) (x : Int) (n : Nat) (hn : n ≤ 1) : (W.alloc (.cells #[.int .i64 x] 3)).ownsRow W.heap.size 3 1 (.slice (some ⟨W.heap.size, 0, none⟩) n 1) n (nums .i64 ([x].take n)) := by
  refine ⟨by unfold nums; simp; omega, .inr ⟨W.heap.size, 1, #[.int .i64 x], rfl, Nat.le_refl _, heap_alloc_new W _, hn, by decide, rfl, ?_⟩⟩
  rcases (show n = 0 ∨ n = 1 by omega) with rfl | rfl <;> rfl
set_option maxHeartbeats 4000000 in
set_option maxRecDepth 100000 in
theorem order_Sort.s_one (p : Int) (a b c d e : Value) (w : World) (h0 : 0 ≤ p) (h1 : p ≤ 1000000) :
    Calls Tryd.prog 28 #[.int .i64 p, .int .i64 (p + 1), a, b, c, d, e] w fun e w' => ∃ v, e = .returned v ∧ Kd.R (Kd.int .i64) 3 w' w.heap.size (fun _ => True) v [p] ∧ Below w.heap.size w w' := by
  have e1 : p + 1 - p = 1 := by omega
  go_enter Tryd.func28, Tryd.ntmps28
  go_wp2
  go_ret
  exact ⟨_, rfl, Kd.R_of_own (own_one _ p 1 (by omega)) (fun _ _ => trivial), below_alloc (Below.refl _ _) _⟩
set_option maxHeartbeats 4000000 in
set_option maxRecDepth 100000 in
theorem order_Sort.s_none (p : Int) (a b c d e : Value) (w : World) (h0 : 0 ≤ p) (h1 : p ≤ 1000000) :
    Calls Tryd.prog 28 #[.int .i64 p, .int .i64 p, a, b, c, d, e] w fun e w' => ∃ v, e = .returned v ∧ Kd.R (Kd.int .i64) 3 w' w.heap.size (fun _ => True) v [] ∧ Below w.heap.size w w' := by
  go_enter Tryd.func28, Tryd.ntmps28
  go_wp2
  go_ret
  exact ⟨_, rfl, Kd.R_of_own (own_one _ p 0 (by omega)) (fun _ _ => trivial), below_alloc (Below.refl _ _) _⟩
set_option maxHeartbeats 8000000 in
set_option maxRecDepth 100000 in
theorem order_Sort.s_two (k : Nat) (o : Int) (rev dirs : Bool) (A : Option Addr) (c : Nat) (l : List S23) (g2 g3 g4 g5 g6 : Nat)
    (ih : ∀ (p q : Int) (r : List Int) (w : World), Caught w o rev dirs A c l g2 g3 g4 g5 g6 → order_Sort.s k o rev dirs l p q = some r →
      Calls Tryd.prog 28 #[.int .i64 p, .int .i64 q, pt g2, pt g3, pt g4, pt g5, pt g6] w fun e w' => ∃ v, e = .returned v ∧ Kd.R (Kd.int .i64) 3 w' w.heap.size (fun _ => True) v r ∧ Below w.heap.size w w')
    (p q : Int) (r a b : List Int) (w : World) (hC : Caught w o rev dirs A c l g2 g3 g4 g5 g6) (h0 : 0 ≤ p) (h1 : p ≤ q) (h2 : q ≤ 1000000) (h3 : 2 ≤ q - p)
    (ha : order_Sort.s k o rev dirs l p (p + (q - p) / 2) = some a) (hb : order_Sort.s k o rev dirs l (p + (q - p) / 2) q = some b) (la : 0 < a.length) (lb : 0 < b.length) (lab : a.length + b.length ≤ 1000000)
    (hm : order_Sort.m k o rev dirs l a b [] = some r) :
    Calls Tryd.prog 28 #[.int .i64 p, .int .i64 q, pt g2, pt g3, pt g4, pt g5, pt g6] w fun e w' => ∃ v, e = .returned v ∧ Kd.R (Kd.int .i64) 3 w' w.heap.size (fun _ => True) v r ∧ Below w.heap.size w w' := by
  have b1 : decide (q - p < 2) = false := decide_eq_false (by omega)
  have b2 : 0 ≤ q - p := by omega
  have b3 : ¬ (q - p < 2) := by omega
  have hc2 : w.cell? ⟨g2, 0, none⟩ = _ := (blk_cell hC.h2 0).trans rfl
  have A1 := Aside0.mk ha
  have A2 := Aside0.mk hb
  have A3 := Aside0.mk hm
  have A4 := Aside0.mk hC
  have A5 := Aside0.mk (hC.below (below_drew (Below.refl _ _)))
  clear ha hb hm hC h3
  unfold pt
  go_enter Tryd.func28, Tryd.ntmps28
  go_wp2_with (fail)
  have hS0 : w.cell? ⟨g2, 0, none⟩ = some (.func (.func 28) #[] #[.pointer (some ⟨g2, 0, none⟩), .pointer (some ⟨g3, 0, none⟩), .pointer (some ⟨g4, 0, none⟩), .pointer (some ⟨g5, 0, none⟩), .pointer (some ⟨g6, 0, none⟩)]) := hc2
  clear hc2
  go_region_held3 (fun w' => w'.cell? ⟨g2, 0, none⟩ = some (.func (.func 28) #[] #[.pointer (some ⟨g2, 0, none⟩), .pointer (some ⟨g3, 0, none⟩), .pointer (some ⟨g4, 0, none⟩), .pointer (some ⟨g5, 0, none⟩), .pointer (some ⟨g6, 0, none⟩)]))
    (first | assumption | (exact (blk_cell ((A5.out.below hb1).below hb2).h2 0).trans rfl) | (exact (blk_cell (A5.out.below hb1).h2 0).trans rfl))
    ((go_simp; go_at_call 28; first | ((with_reducible refine (ih p (p + (q - p) / 2) a _ A5.out A1.out).mono ?_); rintro e w1 ⟨va, rfl, hra, hb1⟩) | ((with_reducible refine (ih (p + (q - p) / 2) q b _ (A5.out.below hb1) A2.out).mono ?_); rintro e w2 ⟨vb, rfl, hrb, hb2⟩)))
  obtain ⟨ga, ca, rfl, RA⟩ := Rd.of_R hra la
  obtain ⟨gb, cb, rfl, RB⟩ := Rd.of_R hrb lb
  have RA2 := Aside0.mk ((RA.below hb2).more hb2.size)
  have RB2 := Aside0.mk RB
  have A6 := Aside0.mk ((A5.out.below hb1).below hb2)
  have HB0 : Below w.heap.size w w2 := ((below_drew (Below.refl w.heap.size w)).trans hb1).trans (hb2.mono hb1.size)
  have HB2 := Aside0.mk HB0
  clear RA RB hra hrb hb1 hb2 HB0 hS0
  obtain ⟨i0, hi, hz0, hz1, hz2⟩ := info_parts info3
  have hmk := fun (W : World) => run_make (P := Tryd.prog) W 33 3 i0 (.int .i64 0) Tryd.underlying33 hi hz0 .i64 .i64 0 (q - p) (by omega) b2 (by rw [hz2]; omega) (by omega)
  rw [hz1] at hmk
  go_wp2_with (fail)
  have hN : (q - p).toNat ≤ 1000000 := by omega
  have HOUT : (w2.alloc (Obj.cells (madeCells #[Value.int IntKind.i64 0] (q - p).toNat) 3)).ownsRow w2.heap.size 3 1 (.slice (some ⟨w2.heap.size, 0, none⟩) 0 (q - p).toNat) ([] : List Int).length (nums .i64 []) :=
    ⟨rfl, .inr ⟨w2.heap.size, (q - p).toNat, _, rfl, Nat.le_refl _, heap_alloc_new w2 _, Nat.zero_le _, by unfold maxLen; omega, by simp [size_madeCells], rfl⟩⟩
  have HOW := Aside0.mk HOUT
  have A7 := Aside0.mk (A6.out.below (below_alloc (Below.refl _ _) (Obj.cells (madeCells #[Value.int IntKind.i64 0] (q - p).toNat) 3)))
  have HB3 := Aside0.mk (below_alloc (Below.refl w2.heap.size w2) (Obj.cells (madeCells #[Value.int IntKind.i64 0] (q - p).toNat) 3))
  clear HOUT hmk
  generalize hB : w2.heap.size = H at *
  generalize (q - p).toNat = N at *
  generalize hW3 : w2.alloc (Obj.cells (madeCells #[Value.int IntKind.i64 0] N) 3) = w3 at *
  go_loopw [11, 12, 13] (fun v11 v12 v13 wr => ∃ (kk : Nat) (ga oa na ca gb ob nb cb no : Nat) (a b out : List Int), v11 = .slice (some ⟨ga, oa, none⟩) na ca ∧ v12 = .slice (some ⟨gb, ob, none⟩) nb cb ∧
      Aside0 (Rd wr H ga oa na a ca) ∧ Aside0 (Rd wr H gb ob nb b cb) ∧ Aside0 (wr.ownsRow H 3 1 v13 no (nums .i64 out)) ∧ Aside0 (out.length = no) ∧ Aside0 (Below H w2 wr) ∧ Aside0 (na + nb + no ≤ 1000000) ∧ Aside0 (order_Sort.m kk o rev dirs l a b out = some r))
    (fun v11 v12 _ _ => sliceLen v11 + sliceLen v12)
  case atStart => exact ⟨k, ga, 0, a.length, ca, gb, 0, b.length, cb, 0, a, b, [], rfl, rfl, ⟨RA2.out.below HB3.out⟩, ⟨RB2.out.below HB3.out⟩, HOW, ⟨rfl⟩, HB3, ⟨by omega⟩, A3⟩
  case round =>
    clear RA2 RB2 HOW A3 la lb lab A1 A2 ih
    obtain ⟨kk, ga, oa, na, ca, gb, ob, nb, cb, no, a, b, out, rfl, rfl, RA, RB, HO, HL, HB, HS, HM⟩ := hrel
    cases kk with
    | zero => exact absurd HM.out (by simp [order_Sort.m])
    | succ kk =>
    have hm := HM.out
    clear HM
    rw [order_Sort.m] at hm
    have hla := RA.out.len
    have hlb := RB.out.len
    by_cases hab : 0 < a.length ∧ 0 < b.length
    · rw [if_pos hab] at hm
      have hna : 0 < na := by omega
      have hnb : 0 < nb := by omega
      by_cases hin : 0 ≤ rd a 0 ∧ rd a 0 < (l.length : Int) ∧ 0 ≤ rd b 0 ∧ rd b 0 < (l.length : Int)
      · rw [if_pos hin] at hm
        obtain ⟨cv, hcv, hm⟩ := Option.bind_eq_some_iff.1 hm
        obtain ⟨i1, i2, i3, i4⟩ := hin
        have CW := A6.out.below (by rw [hB]; exact HB.out)
        have ca0 := RA.out.head hna
        have cb0 := RB.out.head hnb
        obtain ⟨ad, rfl, k0, k1, k2, k3⟩ := at_T23 CW.hl (rd a 0) i1 i2
        obtain ⟨ad', he, m0, m1, m2, m3⟩ := at_T23 CW.hl (rd b 0) i3 i4
        obtain rfl := Option.some.inj he
        have q3 : wr.cell? ⟨g3, 0, none⟩ = some (.int .i64 o) := (blk_cell CW.h3 0).trans rfl
        have q4 : wr.cell? ⟨g4, 0, none⟩ = some (.bool rev) := (blk_cell CW.h4 0).trans rfl
        have q5 : wr.cell? ⟨g5, 0, none⟩ = some (.bool dirs) := (blk_cell CW.h5 0).trans rfl
        have q6 : wr.cell? ⟨g6, 0, none⟩ = some (.slice (some ad) l.length c) := (blk_cell CW.h6 0).trans rfl
        have AW := Aside0.mk hcv
        have AM := Aside0.mk hm
        have AL := Aside0.mk (And.intro hla hlb)
        have n1 : (0 : Int) < (na : Int) := by omega
        have n2 : (0 : Int) < (nb : Int) := by omega
        have AHB := Aside0.mk hB
        clear hcv hm hla hlb hab CW hB
        go_wp2_with (fail)
        go_region_held3 (fun w' => w'.cell? ⟨g3, 0, none⟩ = some (.int .i64 o) ∧ w'.cell? ⟨g4, 0, none⟩ = some (.bool rev) ∧ w'.cell? ⟨g5, 0, none⟩ = some (.bool dirs) ∧ w'.cell? ⟨g6, 0, none⟩ = some (.slice (some ad) l.length c) ∧
            w'.cell? ⟨ga, oa, none⟩ = some (.int .i64 (rd a 0)) ∧ w'.cell? ⟨gb, ob, none⟩ = some (.int .i64 (rd b 0)) ∧
            w'.cell? (ad.add ((rd a 0).toNat * 4)) = some (.string (rd_T23 l (rd a 0)).f0) ∧ w'.cell? ⟨(ad.add ((rd a 0).toNat * 4)).block, (ad.add ((rd a 0).toNat * 4)).off + 1, none⟩ = some (.int .i64 (rd_T23 l (rd a 0)).f1) ∧
            w'.cell? ⟨(ad.add ((rd a 0).toNat * 4)).block, (ad.add ((rd a 0).toNat * 4)).off + 2, none⟩ = some (.int .i64 (rd_T23 l (rd a 0)).f2) ∧ w'.cell? ⟨(ad.add ((rd a 0).toNat * 4)).block, (ad.add ((rd a 0).toNat * 4)).off + 3, none⟩ = some (.bool (rd_T23 l (rd a 0)).f3) ∧
            w'.cell? (ad.add ((rd b 0).toNat * 4)) = some (.string (rd_T23 l (rd b 0)).f0) ∧ w'.cell? ⟨(ad.add ((rd b 0).toNat * 4)).block, (ad.add ((rd b 0).toNat * 4)).off + 1, none⟩ = some (.int .i64 (rd_T23 l (rd b 0)).f1) ∧
            w'.cell? ⟨(ad.add ((rd b 0).toNat * 4)).block, (ad.add ((rd b 0).toNat * 4)).off + 2, none⟩ = some (.int .i64 (rd_T23 l (rd b 0)).f2) ∧ w'.cell? ⟨(ad.add ((rd b 0).toNat * 4)).block, (ad.add ((rd b 0).toNat * 4)).off + 3, none⟩ = some (.bool (rd_T23 l (rd b 0)).f3))
          (first | (refine ⟨?_, ?_, ?_, ?_, ?_, ?_, ?_, ?_, ?_, ?_, ?_, ?_, ?_, ?_⟩ <;> assumption) | (refine ⟨?_, ?_, ?_, ?_, ?_, ?_, ?_, ?_, ?_, ?_, ?_, ?_, ?_, ?_⟩ <;> (refine pw_cell_below hbw ?_; assumption)))
          ((go_simp; go_at_call 29; (with_reducible refine (order_whole.calls kk o rev dirs _ _ _ _ _ _ _ _ cv _ AW.out).mono ?_); rintro e w4 ⟨rfl, hbw⟩))
        have H4 : Aside0 (H ≤ w4.heap.size) := ⟨by have := HB.out.size; have := AHB.out; have := hbw.size; simp at this; omega⟩
        have BW : Below H wr w4 := (below_drew (Below.refl H wr)).trans (hbw.mono (by have := HB.out.size; have := AHB.out; simp; omega))
        have R4A := Aside0.mk (RA.out.below BW)
        have R4B := Aside0.mk (RB.out.below BW)
        have O4 := Aside0.mk (pw_own_below (own_drew HO.out) hbw)
        have B4 := Aside0.mk (HB.out.trans BW)
        clear hbw BW RA RB HO HB AW
        by_cases hle : cv ≤ 0
        ·
          have AM2 := AM.out
          rw [if_pos hle] at AM2
          have AM3 := Aside0.mk AM2
          clear AM2 AM
          have t1 : decide (cv ≤ 0) = true := decide_eq_true hle
          clear ca0 cb0 k0 k1 k2 k3 m0 m1 m2 m3 q3 q4 q5 q6 i1 i2 i3 i4
          have x0 : w4.cell? ⟨ga, oa, none⟩ = some (.int .i64 (rd a 0)) := R4A.out.head hna
          have n3 : (1 : Int) ≤ (na : Int) := by omega
          have n4 : (na : Int) ≤ (ca : Int) := by have := R4A.out.le; omega
          have h63 : no + 1 ≤ maxLen := by unfold maxLen; have := HS.out; omega
          have hby : (no + 1) * 8 ≤ 140737488355328 := by have := HS.out; omega
          by_cases hc1 : ca = 1
          · subst hc1
            go_wp2_with (fail)
            go_region_held3 (fun w' => w'.cell? ⟨ga, oa, none⟩ = some (.int .i64 (rd a 0)))
              (first | go_keep | (exact (gr.cell_far (a := ⟨ga, oa, none⟩) (by have := R4A.out.lt; have := H4.out; simp; omega) (fun e => by have := own_base O4.out ga e.symm; have := R4A.out.lt; omega)).trans (by go_simp)))
              ((refine step_append_lies _ (by rfl) _ _ _ (by rfl) H 3 i0 (.int .i64 0) 1 8 Tryd.underlying33 hi hz0 hz1 hz2 rfl (by omega) u13 no (nums .i64 out) (by rfl) ((O4.out.alloc _).drew) ⟨w4.heap.size, 0, none⟩ 1 1 [.int .i64 (rd a 0)] (by rfl) (by rfl) (World.news_of_block (cs := #[.int .i64 (rd a 0)]) (t := 3) (fr := (0, 0)) (heap_alloc_new w4 _)) (by simp [Value.oneCell']) (by omega) h63 hby (by have := H4.out; simp; omega) (w4.heap.size + 1) (by simp) ?_; intro g cap w5 own5 gr hat hlt))
            go_wp2_with (fail)
            have BB : Below H w4 w5 := pw_below_grown (((Below.refl H w4).alloc H4.out _).drew) _ (by have := H4.out; simp; omega) gr (fun k hk => own_base O4.out k hk)
            go_roundw
            case rel => exact ⟨kk, ga, oa, na - 1, 0, gb, ob, nb, cb, no + 1, a.drop 1, b, out ++ [rd a 0], rfl, rfl, ⟨(R4A.out.below BB).tail0 hna rfl⟩, ⟨R4B.out.below BB⟩, ⟨by rw [nums_append]; exact own5⟩, ⟨by rw [List.length_append, HL.out]; rfl⟩, ⟨B4.out.trans BB⟩, ⟨by have := HS.out; omega⟩, AM3⟩
            case measure => simp [sliceLen]; omega
          ·
            go_wp2_with (fail)
            go_region_held3 (fun w' => w'.cell? ⟨ga, oa, none⟩ = some (.int .i64 (rd a 0)))
              (first | go_keep | (exact (gr.cell_far (a := ⟨ga, oa, none⟩) (by have := R4A.out.lt; have := H4.out; simp; omega) (fun e => by have := own_base O4.out ga e.symm; have := R4A.out.lt; omega)).trans (by go_simp)))
              ((refine step_append_lies _ (by rfl) _ _ _ (by rfl) H 3 i0 (.int .i64 0) 1 8 Tryd.underlying33 hi hz0 hz1 hz2 rfl (by omega) u13 no (nums .i64 out) (by rfl) ((O4.out.alloc _).drew) ⟨w4.heap.size, 0, none⟩ 1 1 [.int .i64 (rd a 0)] (by rfl) (by rfl) (World.news_of_block (cs := #[.int .i64 (rd a 0)]) (t := 3) (fr := (0, 0)) (heap_alloc_new w4 _)) (by simp [Value.oneCell']) (by omega) h63 hby (by have := H4.out; simp; omega) (w4.heap.size + 1) (by simp) ?_; intro g cap w5 own5 gr hat hlt))
            go_wp2_with (fail)
            have BB : Below H w4 w5 := pw_below_grown (((Below.refl H w4).alloc H4.out _).drew) _ (by have := H4.out; simp; omega) gr (fun k hk => own_base O4.out k hk)
            go_roundw
            case rel => exact ⟨kk, ga, oa + 1, na - 1, ca - 1, gb, ob, nb, cb, no + 1, a.drop 1, b, out ++ [rd a 0], rfl, rfl, ⟨(R4A.out.below BB).tail hna⟩, ⟨R4B.out.below BB⟩, ⟨by rw [nums_append]; exact own5⟩, ⟨by rw [List.length_append, HL.out]; rfl⟩, ⟨B4.out.trans BB⟩, ⟨by have := HS.out; omega⟩, AM3⟩
            case measure => simp [sliceLen]; omega
        ·
          have AM2 := AM.out
          rw [if_neg hle] at AM2
          have AM3 := Aside0.mk AM2
          clear AM2 AM
          have t1 : decide (cv ≤ 0) = false := decide_eq_false hle
          clear ca0 cb0 k0 k1 k2 k3 m0 m1 m2 m3 q3 q4 q5 q6 i1 i2 i3 i4
          have x0 : w4.cell? ⟨gb, ob, none⟩ = some (.int .i64 (rd b 0)) := R4B.out.head hnb
          have n3 : (1 : Int) ≤ (nb : Int) := by omega
          have n4 : (nb : Int) ≤ (cb : Int) := by have := R4B.out.le; omega
          have h63 : no + 1 ≤ maxLen := by unfold maxLen; have := HS.out; omega
          have hby : (no + 1) * 8 ≤ 140737488355328 := by have := HS.out; omega
          by_cases hc1 : cb = 1
          · subst hc1
            go_wp2_with (fail)
            go_region_held3 (fun w' => w'.cell? ⟨gb, ob, none⟩ = some (.int .i64 (rd b 0)))
              (first | go_keep | (exact (gr.cell_far (a := ⟨gb, ob, none⟩) (by have := R4B.out.lt; have := H4.out; simp; omega) (fun e => by have := own_base O4.out gb e.symm; have := R4B.out.lt; omega)).trans (by go_simp)))
              ((refine step_append_lies _ (by rfl) _ _ _ (by rfl) H 3 i0 (.int .i64 0) 1 8 Tryd.underlying33 hi hz0 hz1 hz2 rfl (by omega) u13 no (nums .i64 out) (by rfl) ((O4.out.alloc _).drew) ⟨w4.heap.size, 0, none⟩ 1 1 [.int .i64 (rd b 0)] (by rfl) (by rfl) (World.news_of_block (cs := #[.int .i64 (rd b 0)]) (t := 3) (fr := (0, 0)) (heap_alloc_new w4 _)) (by simp [Value.oneCell']) (by omega) h63 hby (by have := H4.out; simp; omega) (w4.heap.size + 1) (by simp) ?_; intro g cap w5 own5 gr hat hlt))
            go_wp2_with (fail)
            have BB : Below H w4 w5 := pw_below_grown (((Below.refl H w4).alloc H4.out _).drew) _ (by have := H4.out; simp; omega) gr (fun k hk => own_base O4.out k hk)
            go_roundw
            case rel => exact ⟨kk, ga, oa, na, ca, gb, ob, nb - 1, 0, no + 1, a, b.drop 1, out ++ [rd b 0], rfl, rfl, ⟨R4A.out.below BB⟩, ⟨(R4B.out.below BB).tail0 hnb rfl⟩, ⟨by rw [nums_append]; exact own5⟩, ⟨by rw [List.length_append, HL.out]; rfl⟩, ⟨B4.out.trans BB⟩, ⟨by have := HS.out; omega⟩, AM3⟩
            case measure => simp [sliceLen]; omega
          ·
            go_wp2_with (fail)
            go_region_held3 (fun w' => w'.cell? ⟨gb, ob, none⟩ = some (.int .i64 (rd b 0)))
              (first | go_keep | (exact (gr.cell_far (a := ⟨gb, ob, none⟩) (by have := R4B.out.lt; have := H4.out; simp; omega) (fun e => by have := own_base O4.out gb e.symm; have := R4B.out.lt; omega)).trans (by go_simp)))
              ((refine step_append_lies _ (by rfl) _ _ _ (by rfl) H 3 i0 (.int .i64 0) 1 8 Tryd.underlying33 hi hz0 hz1 hz2 rfl (by omega) u13 no (nums .i64 out) (by rfl) ((O4.out.alloc _).drew) ⟨w4.heap.size, 0, none⟩ 1 1 [.int .i64 (rd b 0)] (by rfl) (by rfl) (World.news_of_block (cs := #[.int .i64 (rd b 0)]) (t := 3) (fr := (0, 0)) (heap_alloc_new w4 _)) (by simp [Value.oneCell']) (by omega) h63 hby (by have := H4.out; simp; omega) (w4.heap.size + 1) (by simp) ?_; intro g cap w5 own5 gr hat hlt))
            go_wp2_with (fail)
            have BB : Below H w4 w5 := pw_below_grown (((Below.refl H w4).alloc H4.out _).drew) _ (by have := H4.out; simp; omega) gr (fun k hk => own_base O4.out k hk)
            go_roundw
            case rel => exact ⟨kk, ga, oa, na, ca, gb, ob + 1, nb - 1, cb - 1, no + 1, a, b.drop 1, out ++ [rd b 0], rfl, rfl, ⟨R4A.out.below BB⟩, ⟨(R4B.out.below BB).tail hnb⟩, ⟨by rw [nums_append]; exact own5⟩, ⟨by rw [List.length_append, HL.out]; rfl⟩, ⟨B4.out.trans BB⟩, ⟨by have := HS.out; omega⟩, AM3⟩
            case measure => simp [sliceLen]; omega
      · rw [if_neg hin] at hm; cases hm
    · rw [if_neg hab] at hm
      obtain rfl := Option.some.inj hm
      have hb0 : H ≤ wr.heap.size := by have := HB.out.size; omega
      have n1 : ¬ (0 < na ∧ 0 < nb) := by omega
      have hl1 : (nums .i64 a).length = na * 1 := by rw [nums_length]; omega
      have hl2 : (nums .i64 b).length = nb * 1 := by rw [nums_length]; omega
      have hs := HS.out
      have hlo := HL.out
      have AL := Aside0.mk (And.intro hla hlb)
      have AH := Aside0.mk hB
      clear hla hlb hab hB
      by_cases hna : 0 < na
      · obtain rfl : nb = 0 := by omega
        have n2 : (0 : Int) < (na : Int) := by omega
        go_wp2_with (first | (at_builtin; refine wpList_append_own_at _ rfl (.tmp 83) (.tmp 84) 33 rfl H 3 i0 (.int .i64 0) 1 8 Tryd.underlying33 hi hz0 hz1 hz2 rfl (by decide) u13 no (nums .i64 out) rfl HO.out ⟨ga, oa, none⟩ na ca (nums .i64 a) rfl hl1 RA.out.news (nums_one a) (by unfold maxLen; omega) (by omega) hb0 ?_; intro v1 w5 own1 gr1 e1 at1; have BB := Aside0.mk (pw_below_grown (Below.refl H wr) _ hb0 gr1 (fun k hk => own_base HO.out k hk))) | (at_builtin; refine wpList_append_own_at _ rfl (.tmp 85) (.tmp 86) 33 rfl H 3 i0 (.int .i64 0) 1 8 Tryd.underlying33 hi hz0 hz1 hz2 rfl (by decide) v1 (no + na) (nums .i64 out ++ nums .i64 a) rfl own1 ⟨gb, ob, none⟩ 0 cb (nums .i64 b) rfl hl2 (RB.out.below BB.out).news (nums_one b) (by unfold maxLen; omega) (by omega) (by have := BB.out.size; omega) ?_; intro v2 w6 own2 gr2 e2 at2))
        go_ret
        have B6 : Below H w2 w6 := (HB.out.trans BB.out).trans (pw_below_grown (Below.refl H w5) _ (by have := BB.out.size; omega) gr2 (fun k hk => own_base own1 k hk))
        have own3 : w6.ownsRow H 3 1 v2 (out ++ (a ++ b)).length (encs (Value.int .i64) (out ++ (a ++ b))) := by
          have := AL.out
          rw [show (out ++ (a ++ b)).length = no + na + 0 from by simp; omega]
          have e : encs (Value.int .i64) (out ++ (a ++ b)) = nums .i64 out ++ nums .i64 a ++ nums .i64 b := by simp [encs, nums]
          rw [e]
          exact own2
        have hle : w.heap.size ≤ H := by have := HB2.out.size; have := AH.out; omega
        have fin : Kd.R (Kd.int .i64) 3 w6 w.heap.size (fun _ => True) v2 (out ++ (a ++ b)) := Kd.R_lower (Kd.R_of_own own3 (fun _ _ => trivial)) hle
        exact ⟨v2, rfl, fin, below_weaken HB2.out hle B6⟩
      · obtain rfl : na = 0 := by omega
        go_wp2_with (first | (at_builtin; refine wpList_append_own_at _ rfl (.tmp 83) (.tmp 84) 33 rfl H 3 i0 (.int .i64 0) 1 8 Tryd.underlying33 hi hz0 hz1 hz2 rfl (by decide) u13 no (nums .i64 out) rfl HO.out ⟨ga, oa, none⟩ 0 ca (nums .i64 a) rfl hl1 RA.out.news (nums_one a) (by unfold maxLen; omega) (by omega) hb0 ?_; intro v1 w5 own1 gr1 e1 at1; have BB := Aside0.mk (pw_below_grown (Below.refl H wr) _ hb0 gr1 (fun k hk => own_base HO.out k hk))) | (at_builtin; refine wpList_append_own_at _ rfl (.tmp 85) (.tmp 86) 33 rfl H 3 i0 (.int .i64 0) 1 8 Tryd.underlying33 hi hz0 hz1 hz2 rfl (by decide) v1 (no + 0) (nums .i64 out ++ nums .i64 a) rfl own1 ⟨gb, ob, none⟩ nb cb (nums .i64 b) rfl hl2 (RB.out.below BB.out).news (nums_one b) (by unfold maxLen; omega) (by omega) (by have := BB.out.size; omega) ?_; intro v2 w6 own2 gr2 e2 at2))
        go_ret
        have B6 : Below H w2 w6 := (HB.out.trans BB.out).trans (pw_below_grown (Below.refl H w5) _ (by have := BB.out.size; omega) gr2 (fun k hk => own_base own1 k hk))
        have own3 : w6.ownsRow H 3 1 v2 (out ++ (a ++ b)).length (encs (Value.int .i64) (out ++ (a ++ b))) := by
          have := AL.out
          rw [show (out ++ (a ++ b)).length = no + 0 + nb from by simp; omega]
          have e : encs (Value.int .i64) (out ++ (a ++ b)) = nums .i64 out ++ nums .i64 a ++ nums .i64 b := by simp [encs, nums]
          rw [e]
          exact own2
        have hle : w.heap.size ≤ H := by have := HB2.out.size; have := AH.out; omega
        have fin : Kd.R (Kd.int .i64) 3 w6 w.heap.size (fun _ => True) v2 (out ++ (a ++ b)) := Kd.R_lower (Kd.R_of_own own3 (fun _ _ => trivial)) hle
        exact ⟨v2, rfl, fin, below_weaken HB2.out hle B6⟩
theorem order_Sort.s_calls (o : Int) (rev dirs : Bool) (A : Option Addr) (c : Nat) (l : List S23) (g2 g3 g4 g5 g6 : Nat) : ∀ (k : Nat) (p q : Int) (r : List Int) (w : World), Caught w o rev dirs A c l g2 g3 g4 g5 g6 → order_Sort.s k o rev dirs l p q = some r →
      Calls Tryd.prog 28 #[.int .i64 p, .int .i64 q, pt g2, pt g3, pt g4, pt g5, pt g6] w fun e w' => ∃ v, e = .returned v ∧ Kd.R (Kd.int .i64) 3 w' w.heap.size (fun _ => True) v r ∧ Below w.heap.size w w' := by
  intro k
  induction k with
  | zero => intro p q r w _ h; simp [order_Sort.s] at h
  | succ k ih =>
    intro p q r w hC h
    rw [order_Sort.s] at h
    split at h
    · next hg =>
      obtain ⟨h0, h1, h2⟩ := hg
      split at h
      · next h3 =>
        split at h
        · next h4 =>
          obtain rfl := Option.some.inj h
          obtain rfl : q = p + 1 := by omega
          exact order_Sort.s_one p _ _ _ _ _ w h0 (by omega)
        · next h4 =>
          obtain rfl := Option.some.inj h
          obtain rfl : q = p := by omega
          exact order_Sort.s_none q _ _ _ _ _ w h0 (by omega)
      · next h3 =>
        obtain ⟨a, ha, h⟩ := Option.bind_eq_some_iff.1 h
        obtain ⟨b, hb, h⟩ := Option.bind_eq_some_iff.1 h
        split at h
        · next hab => exact order_Sort.s_two k o rev dirs A c l g2 g3 g4 g5 g6 ih p q r a b w hC h0 h1 h2 (by omega) ha hb hab.1 hab.2.1 hab.2.2 h
        · cases h
    · cases h
end Go.Proofs.YtnlbjefhbeocmaaDoor.QOrderCompares
