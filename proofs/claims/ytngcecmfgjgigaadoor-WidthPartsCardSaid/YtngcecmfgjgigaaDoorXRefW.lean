/- The document's Width, by hand: two tables of whole numbers in memory, two loops. -/
import Derived.Test.YtngcecmfgjgigaaDoorWMath
import Derived.Test.YtngcecmfgjgigaaDoorVArr
import Derived.LoopTactic
import Derived.Deep.LoopGhost
namespace Go.Proofs.YtngcecmfgjgigaaDoor.Ext
open Go.RowKit Go.Proofs.YtngcecmfgjgigaaDoor.WMath Go.Proofs.YtngcecmfgjgigaaDoor.QWidthRunes Go.Proofs.YtngcecmfgjgigaaDoorW.PrintWords Go.Proofs.YtngcecmfgjgigaaDoorW.PrintLast Go.Proofs.YtngcecmfgjgigaaDoorW.PrintMore
set_option linter.unusedVariables false
set_option linter.unusedSimpArgs false

section
variable {P : Program} {ops : Array Oper} {rest : List Oper} {o : Oper} {a : Act} {Q : Exit → Act → World → Prop}
/-- A whole value is stored into a block: the block is a letter's. -/
theorem store_event {W : World} (hgd : o.guard = none) (hN : o.dst = none) (t : TypeId) (p x : Operand) (ho : o.op = .store t p x) (base g : Nat) (e : TypeId) (cur : Array Value) (u : Value) (seg : List Value)
    (haddr : a.eval p = .pointer (some ⟨g, 0, none⟩)) (hx : a.eval x = u) (hh : W.heap[g]? = some (.cells cur e (0, 0))) (hu : u.cells.toList = seg) (ht : (P.info? t).map (·.size) = some seg.length) (hsz : cur.size = seg.length)
    (h1 : ∀ q ∈ seg, q.oneCell' = true) (hb : base ≤ g)
    (h : ∀ w1, w1.heap[g]? = some (.cells seg.toArray e (0, 0)) → Below base W w1 → wpList P ops Q rest a w1) : wpList P ops Q (o :: rest) a W := by
  refine wpList_plain hgd fun K hK => ?_
  have hrun := run_store_run (P := P) (o := 0) t u seg hh hu ht (by omega) h1
  obtain ⟨cur', hc, hs, hl⟩ := setCells_row (e := e) seg 0 W cur hh (by omega)
  have hcur : cur' = seg.toArray := by
    apply Array.toList_inj.1
    rw [hl, List.take_zero, List.nil_append, Nat.zero_add, List.drop_eq_nil_of_le (by rw [Array.length_toList]; omega), List.append_nil]
  obtain ⟨s1, s2, s3, s4⟩ := setCells_same g seg 0 W
  unfold Oper.wp execOp
  simp only [ho, haddr, hx, Sem.run_bind, Sem.run_pure, Result.andThen_ok, hrun]
  show K (a.put o.dst undef) _
  rw [hN]
  exact hK a _ (h _ (by rw [hc, hcur]) ⟨s1, s2, s3, by rw [s4]; exact Nat.le_refl _, fun k hk => setCells_far seg 0 k (by omega)⟩)
end
def T1 : List Int := [0, 31, 127, 159, 768, 879, 8203, 8207, 65024, 65039]
def T2 : List Int := [4352, 4447, 11904, 12350, 12353, 13311, 13312, 19903, 19968, 42191, 44032, 55203, 63744, 64255, 65072, 65135, 65280, 65376, 65504, 65510, 127744, 128591, 131072, 262141]
theorem t1 : ∀ i : Fin 5, rd T1 ((2 * i.val : Nat) : Int) = (NN[i.val]'i.isLt).f0 ∧ rd T1 (((2 * i.val : Nat) : Int) + 1) = (NN[i.val]'i.isLt).f1 := by decide +kernel
theorem t2 : ∀ i : Fin 12, rd T2 ((2 * i.val : Nat) : Int) = (WW[i.val]'i.isLt).f0 ∧ rd T2 (((2 * i.val : Nat) : Int) + 1) = (WW[i.val]'i.isLt).f1 := by decide +kernel
def domesdayref02_Width.f (a0 : Int) : Option Int := some (wd a0)
def V (l : List Int) : List Value := l.map (Value.int .i64)
theorem V_one (l : List Int) : ∀ q ∈ V l, q.oneCell' = true := by
  intro q hq
  obtain ⟨x, _, rfl⟩ := List.mem_map.1 hq
  rfl
/-- One round's facts: what the two cells say, and what is left of the sum. -/
theorem round1 (r : Int) (k : Nat) (hk : k < 5) (x : Int) (hx : x = ((2 * (4 - k) : Nat) : Int)) :
    ∃ lo hi, rd T1 x = lo ∧ rd T1 (x + 1) = hi ∧ wl 0 (NN.drop (4 - k)) r (wl 2 WW r 1) = (if lo ≤ r ∧ r ≤ hi then 0 else wl 0 (NN.drop (5 - k)) r (wl 2 WW r 1)) := by
  obtain ⟨f0, f1⟩ := t1 ⟨4 - k, by omega⟩
  subst hx
  refine ⟨_, _, f0, f1, ?_⟩
  have gl : 4 - k < NN.length := by show 4 - k < 5; omega
  rw [List.drop_eq_getElem_cons gl, wl, show 4 - k + 1 = 5 - k from by omega]
  rfl
theorem round2 (r : Int) (k : Nat) (hk : k < 12) (x : Int) (hx : x = ((2 * (11 - k) : Nat) : Int)) :
    ∃ lo hi, rd T2 x = lo ∧ rd T2 (x + 1) = hi ∧ wl 2 (WW.drop (11 - k)) r 1 = (if lo ≤ r ∧ r ≤ hi then 2 else wl 2 (WW.drop (12 - k)) r 1) := by
  obtain ⟨f0, f1⟩ := t2 ⟨11 - k, by omega⟩
  subst hx
  refine ⟨_, _, f0, f1, ?_⟩
  have gl : 11 - k < WW.length := by show 11 - k < 12; omega
  rw [List.drop_eq_getElem_cons gl, wl, show 11 - k + 1 = 12 - k from by omega]
  rfl
theorem cellAt {w : World} {g t : Nat} (l : List Int) (h : w.heap[g]? = some (.cells (V l).toArray t (0, 0))) (x : Int) (h0 : 0 ≤ x) (h1 : x < (l.length : Int)) :
    w.cell? ⟨g, x.toNat, none⟩ = some (.int .i64 (rd l x)) := by
  have := arr_cell_int (w := w) (g := g) (t := t) (k := .i64) (cs := (V l).toArray) 0 l (by show ((V l).drop 0).take l.length = _; rw [List.drop_zero, List.take_of_length_le (by simp [V])]; rfl) h x h0 h1
  rw [Nat.zero_add] at this
  exact this
set_option maxHeartbeats 4000000 in
set_option maxRecDepth 100000 in
theorem domesdayref02_Width.calls (a0 : Int) (r : Int) (w : World) (h : domesdayref02_Width.f a0 = some r) :
    Calls Tryd.prog 9 #[.int .i64 a0] w fun e w' => e = .returned (.int .i64 r) ∧ Below w.heap.size w w' := by
  have hu35 := Tryd.underlying35
  have hu36 := Tryd.underlying36
  obtain rfl := Option.some.inj h
  clear h
  have HB := Aside0.mk (Below.refl w.heap.size w)
  go_enter Tryd.func9, Tryd.ntmps9
  go_wp2_with (first | ((with_reducible refine gate_dst (N := 3) rfl ?_); refine box_event ?hg (N := 3) ?hd (cs := #[.int .i64 0, .int .i64 0, .int .i64 0, .int .i64 0, .int .i64 0, .int .i64 0, .int .i64 0, .int .i64 0, .int .i64 0, .int .i64 0]) (t := 35) ?hr ?_; (case hd => rfl); (case hg => rfl); (case hr => first | (go_simp; done) | (go_simp; rfl)); intro g1 hg w2 hbox hb; have B1 := Aside0.mk (HB.out.trans hb); have K1 := Aside0.mk hbox; have G1 := Aside0.mk ((by rw [hg]; exact Nat.le_refl _) : w.heap.size ≤ g1); clear hg hbox hb) | ((with_reducible refine gate_ (.store 35 (.tmp 3) (.tmp 7)) rfl ?_); refine store_event rfl rfl 35 (.tmp 3) (.tmp 7) rfl w.heap.size _ _ _ _ (V T1) rfl rfl K1.out rfl (by kernel_rfl) rfl (V_one _) G1.out ?_; intro w3 hc hb3; have C1 := Aside0.mk hc; have B2 := Aside0.mk (B1.out.trans hb3); clear hc hb3))
  go_loopg [4] 5 (fun kq v4 w' => ∃ (x : Int), v4 = .int .i64 x ∧ Aside0 (kq ≤ 5 ∧ x = ((2 * (5 - kq) : Nat) : Int) ∧ wl 0 (NN.drop (5 - kq)) a0 (wl 2 WW a0 1) = wd a0) ∧ Aside0 (w'.heap[g1]? = some (.cells (V T1).toArray 35 (0, 0))) ∧ Aside0 (Below w.heap.size w w'))
  case atStart => exact ⟨0, rfl, ⟨Nat.le_refl _, rfl, rfl⟩, C1, B2⟩
  case round =>
    obtain ⟨x, rfl, HX, HC, HB2⟩ := hrel
    clear C1 B2 B1 K1
    cases gk with
    | zero =>
      have hx : x = 10 := by have := HX.out.2.1; omega
      have hw : wl 2 WW a0 1 = wd a0 := HX.out.2.2
      have HW := Aside0.mk hw
      subst hx
      have b0 : decide ((10 : Int) < 10) = false := by decide
      clear HX hw
      go_wp2_with (first | ((with_reducible refine gate_dst (N := 5) rfl ?_); refine box_event ?hg (N := 5) ?hd (cs := #[.int .i64 0, .int .i64 0, .int .i64 0, .int .i64 0, .int .i64 0, .int .i64 0, .int .i64 0, .int .i64 0, .int .i64 0, .int .i64 0, .int .i64 0, .int .i64 0, .int .i64 0, .int .i64 0, .int .i64 0, .int .i64 0, .int .i64 0, .int .i64 0, .int .i64 0, .int .i64 0, .int .i64 0, .int .i64 0, .int .i64 0, .int .i64 0]) (t := 36) ?hr ?_; (case hd => rfl); (case hg => rfl); (case hr => first | (go_simp; done) | (go_simp; rfl)); intro g2 hg w4 hbox hb; have B3 := Aside0.mk (HB2.out.trans (hb.mono HB2.out.size)); have K2 := Aside0.mk hbox; have G2 := Aside0.mk ((by rw [hg]; exact HB2.out.size) : w.heap.size ≤ g2); clear hg hbox hb) | ((with_reducible refine gate_ (.store 36 (.tmp 5) (.tmp 25)) rfl ?_); refine store_event rfl rfl 36 (.tmp 5) (.tmp 25) rfl w.heap.size _ _ _ _ (V T2) rfl rfl K2.out rfl (by kernel_rfl) rfl (V_one _) G2.out ?_; intro w5 hc hb3; have C2 := Aside0.mk hc; have B4 := Aside0.mk (B3.out.trans hb3); clear hc hb3))
      go_loopg [6] 12 (fun kq v6 w' => ∃ (x : Int), v6 = .int .i64 x ∧ Aside0 (kq ≤ 12 ∧ x = ((2 * (12 - kq) : Nat) : Int) ∧ wl 2 (WW.drop (12 - kq)) a0 1 = wd a0) ∧ Aside0 (w'.heap[g2]? = some (.cells (V T2).toArray 36 (0, 0))) ∧ Aside0 (Below w.heap.size w w'))
      case atStart => exact ⟨0, rfl, ⟨Nat.le_refl _, rfl, HW.out⟩, C2, B4⟩
      case round =>
        obtain ⟨x, rfl, HX, HC, HB2⟩ := hrel
        cases gk with
        | zero =>
          have hx : x = 24 := by have := HX.out.2.1; omega
          have hw : (1 : Int) = wd a0 := HX.out.2.2
          subst hx
          have b0 : decide ((24 : Int) < 24) = false := by decide
          clear HX
          have HW4 := Aside0.mk hw
          clear hw HW
          go_wp2
          go_ret
          exact ⟨congrArg (fun z => Ending.returned (Value.int .i64 z)) HW4.out, HB2.out⟩
        | succ k =>
          have hk : k < 12 := by have := HX.out.1; omega
          have hx : x = ((2 * (11 - k) : Nat) : Int) := by have := HX.out.2.1; omega
          have hw := HX.out.2.2
          rw [show 12 - (k + 1) = 11 - k from by omega] at hw
          obtain ⟨lo, hi, e0, e1, er⟩ := round2 a0 k hk x hx
          rw [er] at hw
          have p0 : 0 ≤ x := by omega
          have p1 : x < 24 := by omega
          have p3 : x ≤ 22 := by omega
          have c0 := cellAt T2 HC.out x p0 p1
          have c1 := cellAt T2 HC.out (x + 1) (by omega) (by show x + 1 < ((24 : Nat) : Int); omega)
          rw [e0] at c0
          rw [e1] at c1
          have hwr2 : IntKind.i64.wrap (x + 2) = x + 2 := by rw [IntKind.wrap_i64]; omega
          have HXX := Aside0.mk hx
          have HW2 := Aside0.mk hw
          clear HX hx hw er e0 e1
          obtain ⟨y, hy⟩ : ∃ y, x + 1 = y := ⟨_, rfl⟩
          have q0 : 0 ≤ y := by omega
          have q1 : y < 24 := by omega
          have hwr : IntKind.i64.wrap (x + 1) = y := by rw [IntKind.wrap_i64]; omega
          rw [hy] at c1
          have d0 : wr.cell? ((⟨g2, 0, none⟩ : Addr).add x.toNat) = some (.int .i64 lo) := by rw [add_at0, Nat.zero_add]; exact c0
          have d1 : wr.cell? ((⟨g2, 0, none⟩ : Addr).add y.toNat) = some (.int .i64 hi) := by rw [add_at0, Nat.zero_add]; exact c1
          have HY := Aside0.mk hy
          clear hy p3
          have b0 : decide (x < 24) = true := decide_eq_true p1
          by_cases g1_ : lo ≤ a0
          · have b1 : decide (lo ≤ a0) = true := decide_eq_true g1_
            by_cases g2_ : a0 ≤ hi
            · have b2 : decide (a0 ≤ hi) = true := decide_eq_true g2_
              have hw3 : (2 : Int) = wd a0 := by have := HW2.out; rw [if_pos ⟨g1_, g2_⟩] at this; exact this
              have HW4 := Aside0.mk hw3
              clear hw3 HW2 g1_ g2_
              go_wp2
              go_ret
              exact ⟨congrArg (fun z => Ending.returned (Value.int .i64 z)) HW4.out, HB2.out⟩
            · have b2 : decide (a0 ≤ hi) = false := decide_eq_false g2_
              have HW3 := Aside0.mk (by have := HW2.out; rw [if_neg (fun h => g2_ h.2)] at this; exact this : wl 2 (WW.drop (12 - k)) a0 1 = wd a0)
              clear HW2 g2_
              go_wp2
              go_roundg k
              case rel => exact ⟨x + 2, rfl, ⟨by omega, by have := HXX.out; omega, HW3.out⟩, HC, HB2⟩
              case measure => omega
          · have b1 : decide (lo ≤ a0) = false := decide_eq_false g1_
            have HW3 := Aside0.mk (by have := HW2.out; rw [if_neg (fun h => g1_ h.1)] at this; exact this : wl 2 (WW.drop (12 - k)) a0 1 = wd a0)
            clear HW2 g1_
            go_wp2
            go_roundg k
            case rel => exact ⟨x + 2, rfl, ⟨by omega, by have := HXX.out; omega, HW3.out⟩, HC, HB2⟩
            case measure => omega
    | succ k =>
      have hk : k < 5 := by have := HX.out.1; omega
      have hx : x = ((2 * (4 - k) : Nat) : Int) := by have := HX.out.2.1; omega
      have hw := HX.out.2.2
      rw [show 5 - (k + 1) = 4 - k from by omega] at hw
      obtain ⟨lo, hi, e0, e1, er⟩ := round1 a0 k hk x hx
      rw [er] at hw
      have p0 : 0 ≤ x := by omega
      have p1 : x < 10 := by omega
      have p3 : x ≤ 8 := by omega
      have c0 := cellAt T1 HC.out x p0 p1
      have c1 := cellAt T1 HC.out (x + 1) (by omega) (by show x + 1 < ((10 : Nat) : Int); omega)
      rw [e0] at c0
      rw [e1] at c1
      have hwr2 : IntKind.i64.wrap (x + 2) = x + 2 := by rw [IntKind.wrap_i64]; omega
      have HXX := Aside0.mk hx
      have HW2 := Aside0.mk hw
      clear HX hx hw er e0 e1
      obtain ⟨y, hy⟩ : ∃ y, x + 1 = y := ⟨_, rfl⟩
      have q0 : 0 ≤ y := by omega
      have q1 : y < 10 := by omega
      have hwr : IntKind.i64.wrap (x + 1) = y := by rw [IntKind.wrap_i64]; omega
      rw [hy] at c1
      have d0 : wr.cell? ((⟨g1, 0, none⟩ : Addr).add x.toNat) = some (.int .i64 lo) := by rw [add_at0, Nat.zero_add]; exact c0
      have d1 : wr.cell? ((⟨g1, 0, none⟩ : Addr).add y.toNat) = some (.int .i64 hi) := by rw [add_at0, Nat.zero_add]; exact c1
      have HY := Aside0.mk hy
      clear hy p3
      have b0 : decide (x < 10) = true := decide_eq_true p1
      by_cases g1_ : lo ≤ a0
      · have b1 : decide (lo ≤ a0) = true := decide_eq_true g1_
        by_cases g2_ : a0 ≤ hi
        · have b2 : decide (a0 ≤ hi) = true := decide_eq_true g2_
          have hw3 : (0 : Int) = wd a0 := by have := HW2.out; rw [if_pos ⟨g1_, g2_⟩] at this; exact this
          have HW4 := Aside0.mk hw3
          clear hw3 HW2 g1_ g2_
          go_wp2
          go_ret
          exact ⟨congrArg (fun z => Ending.returned (Value.int .i64 z)) HW4.out, HB2.out⟩
        · have b2 : decide (a0 ≤ hi) = false := decide_eq_false g2_
          have HW3 := Aside0.mk (by have := HW2.out; rw [if_neg (fun h => g2_ h.2)] at this; exact this : wl 0 (NN.drop (5 - k)) a0 (wl 2 WW a0 1) = wd a0)
          clear HW2 g2_
          go_wp2
          go_roundg k
          case rel => exact ⟨x + 2, rfl, ⟨by omega, by have := HXX.out; omega, HW3.out⟩, HC, HB2⟩
          case measure => omega
      · have b1 : decide (lo ≤ a0) = false := decide_eq_false g1_
        have HW3 := Aside0.mk (by have := HW2.out; rw [if_neg (fun h => g1_ h.1)] at this; exact this : wl 0 (NN.drop (5 - k)) a0 (wl 2 WW a0 1) = wd a0)
        clear HW2 g1_
        go_wp2
        go_roundg k
        case rel => exact ⟨x + 2, rfl, ⟨by omega, by have := HXX.out; omega, HW3.out⟩, HC, HB2⟩
        case measure => omega
end Go.Proofs.YtngcecmfgjgigaaDoor.Ext
