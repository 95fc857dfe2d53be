/- quote.Shell: a scope in which the run jumps to two labels. -/
import Derived.Test.YtkhbgfnbkdonlaaDoorPureSh
import Derived.Test.YtkhbgfnbkdonlaaDoorQQuo2
import Derived.ScopeJumps
import Derived.WalkMore
namespace Go.Proofs.YtkhbgfnbkdonlaaDoor.QQuo
open Go.RowKit Go.Shelf Go.Lib Go.Proofs.YtkhbgfnbkdonlaaDoor.Pure Go.Proofs.YtkhbgfnbkdonlaaDoorW.PrintWords Go.Proofs.YtkhbgfnbkdonlaaDoorW.PrintLast Go.Proofs.YtkhbgfnbkdonlaaDoorW.PrintMore
set_option linter.unusedVariables false
set_option linter.unusedSimpArgs false

/-- As Q; by a goto to a label: what holds there, lower than n. -/
def Exit.two (n : Nat) (J : Nat → Nat → Act → World → Prop) (Q : Exit → Act → World → Prop) : Exit → Act → World → Prop
  | .goto l, a, w => l ≤ 1 ∧ ∃ m, m < n ∧ J l m a w
  | e, a, w => Q e a w
section
variable {n : Nat} {J : Nat → Nat → Act → World → Prop} {Q : Exit → Act → World → Prop} {a : Act} {w : World}
@[go_sem] theorem Exit.two_normal : Exit.two n J Q .normal a w = Q .normal a w := rfl
@[go_sem] theorem Exit.two_exit (id : Nat) : Exit.two n J Q (.exit id) a w = Q (.exit id) a w := rfl
@[go_sem] theorem Exit.two_ret : Exit.two n J Q .ret a w = Q .ret a w := rfl
@[go_sem] theorem Exit.two_panic (ch : List PanicEntry) : Exit.two n J Q (.panic ch) a w = Q (.panic ch) a w := rfl
theorem Exit.two_mono {m : Nat} (h : n ≤ m) (e : Exit) (a : Act) (w : World) (hq : Exit.two n J Q e a w) : Exit.two m J Q e a w := by
  cases e with
  | goto l => obtain ⟨h1, k, h2, h3⟩ := hq; exact ⟨h1, k, by omega, h3⟩
  | normal => exact hq
  | exit => exact hq
  | ret => exact hq
  | panic => exact hq
  | outgrown => exact hq
/-- A scope with two labels: what holds at each, and a number that every jump lowers. -/
theorem wp_scope_two {P : Program} {c r0 r1 : Code} (N : Nat) (J : Nat → Nat → Act → World → Prop) (h0 : findLabel c 0 = some (.seq .skip r0)) (h1 : findLabel c 1 = some (.seq .skip r1))
    (pass0 : ∀ n a w, J 0 n a w → r0.wp P (Exit.two n J Q) a w) (pass1 : ∀ n a w, J 1 n a w → r1.wp P (Exit.two n J Q) a w)
    (first : (∀ n a w, n < N → J 0 n a w → r0.wp P (Exit.two N J Q) a w) → c.wp P (Exit.two N J Q) a w) : (Code.scope c).wp P Q a w := by
  intro b k cs
  have hg0 : gotoIn 0 (.inScope c :: k) = some (.code (.seq .skip r0) :: .inScope c :: k) := by simp [gotoIn, h0]
  have hg1 : gotoIn 1 (.inScope c :: k) = some (.code (.seq .skip r1) :: .inScope c :: k) := by simp [gotoIn, h1]
  have sk : ∀ {r : Code} {Q' : Exit → Act → World → Prop} {a w}, r.wp P Q' a w → (Code.seq .skip r).wp P Q' a w := fun h => wp_seq (wp_skip h)
  have key : ∀ n l a w, l ≤ 1 → J l n a w → ∃ e a' w', Q e a' w' ∧ (∀ rest, gotoIn l (.inScope c :: k) = some rest → Arrives P (lone (b.at a rest) cs w) b k cs e a' w') := by
    intro n
    induction n using Nat.strongRecOn with
    | _ n ih =>
      intro l a w hl hJ
      have hp : ∃ r, gotoIn l (.inScope c :: k) = some (.code r :: .inScope c :: k) ∧ r.wp P (Exit.two n J Q) a w := by
        have : l = 0 ∨ l = 1 := by omega
        rcases this with rfl | rfl
        · exact ⟨_, hg0, sk (pass0 n a w hJ)⟩
        · exact ⟨_, hg1, sk (pass1 n a w hJ)⟩
      obtain ⟨r, hg, hr⟩ := hp
      obtain ⟨e, a₁, w₁, hq, harr⟩ := hr b (.inScope c :: k) cs
      have fit : ∀ {e₂ : Exit} {a₂ : Act} {w₂ : World}, Q e₂ a₂ w₂ → Arrives P (lone (b.at a (.code r :: .inScope c :: k)) cs w) b k cs e₂ a₂ w₂ → ∃ e a' w', Q e a' w' ∧ (∀ rest, gotoIn l (.inScope c :: k) = some rest → Arrives P (lone (b.at a rest) cs w) b k cs e a' w') := by
        intro e₂ a₂ w₂ hQ hA
        refine ⟨e₂, a₂, w₂, hQ, fun rest hrest => ?_⟩
        rw [hg] at hrest
        obtain rfl := Option.some.inj hrest
        exact hA
      cases e with
      | normal => exact fit hq (Steps.trans harr (.one step_inScope))
      | exit id => exact fit hq (fun k' hk => harr k' (by simp [exitTo, hk]))
      | goto l' =>
        obtain ⟨hl', m, hm, hJ'⟩ := hq
        obtain ⟨e₂, a₂, w₂, hq₂, harr₂⟩ := ih m hm l' a₁ w₁ hl' hJ'
        have : ∃ rest, gotoIn l' (.inScope c :: k) = some rest := by
          have : l' = 0 ∨ l' = 1 := by omega
          rcases this with rfl | rfl
          · exact ⟨_, hg0⟩
          · exact ⟨_, hg1⟩
        obtain ⟨rest, hrest⟩ := this
        exact fit hq₂ (.of_steps (harr _ hrest) (harr₂ rest hrest))
      | ret => exact fit hq harr
      | panic ch => exact fit hq harr
      | outgrown => exact fit hq harr
  have h := first fun n a w hn hJ => wp_mono (pass0 n a w hJ) (Exit.two_mono (by omega))
  obtain ⟨e, a₁, w₁, hq, harr⟩ := h b (.inScope c :: k) cs
  cases e with
  | normal => exact ⟨.normal, a₁, w₁, hq, .head step_scope (Steps.trans harr (.one step_inScope))⟩
  | exit id => exact ⟨.exit id, a₁, w₁, hq, fun k' hk => .head step_scope (harr k' (by simp [exitTo, hk]))⟩
  | goto l' =>
    obtain ⟨hl', m, hm, hJ'⟩ := hq
    obtain ⟨e₂, a₂, w₂, hq₂, harr₂⟩ := key m l' a₁ w₁ hl' hJ'
    have : ∃ rest, gotoIn l' (.inScope c :: k) = some rest := by
      have : l' = 0 ∨ l' = 1 := by omega
      rcases this with rfl | rfl
      · exact ⟨_, hg0⟩
      · exact ⟨_, hg1⟩
    obtain ⟨rest, hrest⟩ := this
    exact ⟨e₂, a₂, w₂, hq₂, .of_steps (.head step_scope (harr _ hrest)) (harr₂ rest hrest)⟩
  | ret => exact ⟨_, a₁, w₁, hq, .of_steps (.one step_scope) harr⟩
  | panic ch => exact ⟨_, a₁, w₁, hq, .of_steps (.one step_scope) harr⟩
  | outgrown => exact ⟨_, a₁, w₁, hq, .of_steps (.one step_scope) harr⟩
end

def ac (l : List UInt8) : List Int := l.map fun b => (b.toNat : Int)
theorem ac_app (a b : List UInt8) : ac (a ++ b) = ac a ++ ac b := by simp [ac]
theorem ac_str (l : List UInt8) : strOfNums (ac l) = B l := by
  have h : ∀ b : UInt8, UInt8.ofNat ((b.toNat : Int)).toNat = b := fun b => by simp
  unfold strOfNums ac
  rw [List.map_map]
  have e : l.map ((fun n : Int => UInt8.ofNat n.toNat) ∘ fun b : UInt8 => (b.toNat : Int)) = l := by
    refine Eq.trans (List.map_congr_left (g := id) fun b _ => ?_) (List.map_id _)
    exact h b
  exact congrArg (fun l : List UInt8 => (⟨l.toArray⟩ : ByteArray)) e
/-- Where Shell stands at a label. -/
def ShFr (s : ByteArray) (v4 v5 v6 : Value) (a : Act) : Prop := ∃ u : Nat → Value, a = { tmps := #[.string s, u 1, u 2, u 3, v4, v5, v6, u 7, u 8, u 9, u 10, u 11, u 12, u 13, u 14, u 15, u 16, u 17, u 18, u 19, u 20, u 21, u 22, u 23, u 24, u 25, u 26, u 27, u 28, u 29, u 30, u 31, u 32, u 33, u 34, u 35, u 36, u 37, u 38, u 39, u 40, u 41, u 42, u 43, u 44, u 45, u 46, u 47, u 48, u 49, u 50, u 51, u 52, u 53, u 54, u 55, u 56, u 57, u 58, u 59, u 60, u 61, u 62, u 63, u 64, u 65, u 66, u 67, u 68, u 69, u 70, u 71, u 72, u 73, u 74, u 75, u 76, u 77, u 78, u 79, u 80, u 81, u 82, u 83, u 84, u 85, u 86, u 87, u 88, u 89, u 90, u 91, u 92, u 93, u 94, u 95, u 96, u 97, u 98, u 99, u 100, u 101, u 102, u 103, u 104, u 105, u 106, u 107, u 108, u 109, u 110, u 111, u 112], defers := [] }
theorem ShFr.mk' {s : ByteArray} {v4 v5 v6 : Value} {x1 x2 x3 x7 x8 x9 x10 x11 x12 x13 x14 x15 x16 x17 x18 x19 x20 x21 x22 x23 x24 x25 x26 x27 x28 x29 x30 x31 x32 x33 x34 x35 x36 x37 x38 x39 x40 x41 x42 x43 x44 x45 x46 x47 x48 x49 x50 x51 x52 x53 x54 x55 x56 x57 x58 x59 x60 x61 x62 x63 x64 x65 x66 x67 x68 x69 x70 x71 x72 x73 x74 x75 x76 x77 x78 x79 x80 x81 x82 x83 x84 x85 x86 x87 x88 x89 x90 x91 x92 x93 x94 x95 x96 x97 x98 x99 x100 x101 x102 x103 x104 x105 x106 x107 x108 x109 x110 x111 x112 : Value} : ShFr s v4 v5 v6 { tmps := #[.string s, x1, x2, x3, v4, v5, v6, x7, x8, x9, x10, x11, x12, x13, x14, x15, x16, x17, x18, x19, x20, x21, x22, x23, x24, x25, x26, x27, x28, x29, x30, x31, x32, x33, x34, x35, x36, x37, x38, x39, x40, x41, x42, x43, x44, x45, x46, x47, x48, x49, x50, x51, x52, x53, x54, x55, x56, x57, x58, x59, x60, x61, x62, x63, x64, x65, x66, x67, x68, x69, x70, x71, x72, x73, x74, x75, x76, x77, x78, x79, x80, x81, x82, x83, x84, x85, x86, x87, x88, x89, x90, x91, x92, x93, x94, x95, x96, x97, x98, x99, x100, x101, x102, x103, x104, x105, x106, x107, x108, x109, x110, x111, x112], defers := [] } := ⟨fun n => (#[.string s, x1, x2, x3, v4, v5, v6, x7, x8, x9, x10, x11, x12, x13, x14, x15, x16, x17, x18, x19, x20, x21, x22, x23, x24, x25, x26, x27, x28, x29, x30, x31, x32, x33, x34, x35, x36, x37, x38, x39, x40, x41, x42, x43, x44, x45, x46, x47, x48, x49, x50, x51, x52, x53, x54, x55, x56, x57, x58, x59, x60, x61, x62, x63, x64, x65, x66, x67, x68, x69, x70, x71, x72, x73, x74, x75, x76, x77, x78, x79, x80, x81, x82, x83, x84, x85, x86, x87, x88, x89, x90, x91, x92, x93, x94, x95, x96, x97, x98, x99, x100, x101, x102, x103, x104, x105, x106, x107, x108, x109, x110, x111, x112] : Array Value).getD n undef, rfl⟩
def ShJ (w1 : World) (s : ByteArray) (A : Option Addr) (c : Nat) (R : ByteArray × Bool) (l n : Nat) (a : Act) (w' : World) : Prop :=
  ∃ (v4 v6 : Value) (acc : List UInt8) (p : Nat), ShFr s v4 (.slice A s.size c) v6 a ∧ v6 = .int .i64 (p : Int) ∧ p ≤ s.size ∧ n = s.size - p ∧ acc.length ≤ p ∧ Aside0 (resOf (shF (2 * l) ((zL s (kL s)).drop p) acc) = R) ∧ Aside0 (Kd.R (Kd.int .u8) 5 w' w1.heap.size (fun _ => True) v4 (ac acc)) ∧ Aside0 (Below w1.heap.size w1 w')
def ShK (w : World) (s : ByteArray) (R : ByteArray × Bool) (l n : Nat) (a : Act) (w' : World) : Prop :=
  ∃ (w1 : World) (A : Option Addr) (c : Nat), Aside0 (Below w.heap.size w w1) ∧ Aside0 (w.heap.size ≤ w1.heap.size) ∧ Aside0 (Kd.C (Kd.int .i64) w1 A s.size (kL s)) ∧ s.size ≤ c ∧ ShJ w1 s A c R l n a w'
set_option maxHeartbeats 4000000 in
set_option maxRecDepth 100000 in
theorem quote_Shell.calls (a0 : ByteArray) (r1 : ByteArray) (r2 : Bool) (w : World) (h : quote_Shell.f a0 = some (r1, r2)) (HE : Env w) :
    Calls Tryd.prog 12 #[.string a0] w fun e w' => e = .returned (.tuple #[.string r1, .bool r2]) ∧ Below w.heap.size w w' := by
  have hs : a0.size ≤ 100000 := by
    unfold quote_Shell.f at h
    split at h
    · assumption
    · cases h
  unfold quote_Shell.f at h
  rw [if_pos hs] at h
  have hR := Option.some.inj h
  clear h
  obtain ⟨k, hk⟩ := (kinds_ev a0 hs).rounds
  have cK := fun W HE => quote_kinds.calls k a0 _ W hk HE
  clear hk
  have hlen := kL_len a0
  go_enter Tryd.func12, Tryd.ntmps12
  go_wp2
  refine wp_scope_two (a0.size + 1) (ShK w a0 (r1, r2)) rfl rfl ?p0 ?p1 ?first
  case first =>
    intro hgo
    by_cases h0 : a0.size = 0
    · have he : a0 = ⟨#[]⟩ := by
        apply ByteArray.ext
        exact Array.eq_empty_of_size_eq_zero h0
      subst he
      have hR' : (⟨#[]⟩, false) = (r1, r2) := hR
      obtain ⟨rfl, rfl⟩ := Prod.mk.inj hR'
      clear hR hgo hR'
      go_wp2_with (go_at_call 16; refine (cK _ HE).mono ?_; rintro e w2 ⟨v0, rfl, hr, hb2⟩; have hb := Aside0.mk hb2; clear hb2 hr)
      (try simp only [Exit.two_ret])
      go_ret2
      exact ⟨rfl, hb.out⟩
    · have hR' : resOf (shF 0 (zL a0 (kL a0)) []) = (r1, r2) := by
        unfold quote_Shell.R at hR
        rw [if_neg h0] at hR
        exact hR
      have HR := Aside0.mk hR'
      clear hR hR'
      have hne : (a0.toList == ([] : List UInt8)) = false := by
        rw [beq_eq_false_iff_ne, toList_bl]
        intro e
        have := len_list a0
        rw [show a0.data.toList = [] from e] at this
        exact h0 this.symm
      go_wp2_with (go_at_call 16; refine (cK _ HE).mono ?_; rintro e w2 ⟨v0, rfl, hr, hb2⟩; obtain ⟨A, c, rfl⟩ := Kd.R_slice hr; have hC := Aside0.mk (Kd.R_reads' hr); have hb := Aside0.mk hb2; clear hb2 hr)
      rename_i hK
      go_step3
      rw [hlen] at hC
      refine hK _ _ (hgo a0.size _ _ (by omega) ⟨w2, A, c, hb, ⟨hb.out.size⟩, ⟨hC.out.2.2⟩, hC.out.2.1, .slice none 0 0, _, [], 0, ShFr.mk', rfl, Nat.zero_le _, rfl, Nat.le_refl _, HR, ⟨Kd.R_nil ..⟩, ⟨Below.refl _ _⟩⟩)
  case p0 =>
    rintro n a wr ⟨w1, A, c, hb1, hsz, hC, hc, v4, v6, acc, p, ⟨u, rfl⟩, rfl, hp, rfl, hacc, HR, HO, HB⟩
    by_cases hlt : p < a0.size
    · have n1 : ¬ ((p : Int) ≥ (a0.size : Int)) := by omega
      have n2 : (p : Int) < (a0.size : Int) := by omega
      have n5 : (0 : Int) ≤ (p : Int) := by omega
      have hHR := HR.out
      clear HR
      rw [sh0_eq a0 p acc hlt] at hHR
      obtain ⟨ad, he, hca⟩ := Kd.at_int (Kd.C_below hC.out HB.out) (p : Int) (by omega) (by omega)
      rw [Int.toNat_natCast] at hca
      subst he
      have hx : ∀ h : p < a0.size, ((a0[p]'h).toNat : Int) = bt a0 (p : Int) := bt_at a0 (p : Int)
      have hub := bt_ub a0 p hlt
      obtain ⟨q1, hq1⟩ : ∃ q : Nat, q = p + 1 := ⟨_, rfl⟩
      obtain ⟨q2, hq2⟩ : ∃ q : Nat, q = p + 2 := ⟨_, rfl⟩
      have hw1 : IntKind.i64.wrap ((p : Int) + 1) = (q1 : Int) := by rw [i64_w, wrap_id _ (by omega) (by omega)]; omega
      have hw2 : IntKind.i64.wrap ((p : Int) + 2) = (q2 : Int) := by rw [i64_w, wrap_id _ (by omega) (by omega)]; omega
      by_cases g1 : rd (kL a0) (p : Int) = 1
      · rw [if_pos g1] at hHR
        have HN := Aside0.mk hHR
        clear hHR
        have b1 : (rd (kL a0) (p : Int) == 1) = true := beq_iff_eq.2 g1
        clear g1
        go_wp2_with (first | ((with_reducible refine gate_builtin (b := .append) (xs := #[.tmp 25, .tmp 29]) rfl ?_); (try (refine gate_guard (by rfl) ?_; dsimp only)); at_builtin; refine Kd.R_append (Kd.int .u8) (w0 := w1) w1.heap.size rfl (.tmp 25) (.tmp 29) 42 5 (.int .u8 0) 1 rfl Tryd.underlying42 info5 rfl (by decide) (by omega) v4 (ac acc) ((ub a0 p).toNat : Int) [.int .u8 ((ub a0 p).toNat : Int)] (fun _ => True) (fun _ => False) rfl rfl ?aP (fun _ hk => hk.elim) ?aF ?aO ?aB ?aS ?aL ?_; (case aP => exact rfl); (case aB => exact HB.out); (case aF => exact (fun _ _ => trivial)); (case aO => exact HO.out); (case aS => exact (below_size HB.out)); (case aL => simp only [ac, List.length_map]; omega); intro v4' w9 ho hb hg hat; have n0_ := Aside0.mk hb; have n1_ := Aside0.mk ho; clear HB; clear HO; have HB := n0_; have HO := n1_; clear n0_ n1_; clear ho hb hg hat))
        go_step3
        exact ⟨by decide, a0.size - q1, by omega, w1, _, c, hb1, hsz, hC, hc, v4', _, acc ++ [ub a0 p], q1, ShFr.mk', congrArg (Value.int .i64) (by omega), by omega, rfl, by simp; omega, ⟨by rw [hq1]; exact HN.out⟩, ⟨by rw [ac_app]; exact HO.out⟩, HB⟩
      rw [if_neg g1] at hHR
      have b1 : (rd (kL a0) (p : Int) == 1) = false := beq_eq_false_iff_ne.2 g1
      clear g1
      have hpos : ((p : Int) ≤ (a0.size : Int)) := by omega
      have he := ext_eq a0 p a0.size
      have hex : bl (a0.extract p a0.size) = (bl a0).drop p := ext_list a0 p
      have c1 := fun W => strings_HasPrefix.calls (a0.extract p a0.size) (⟨#[92, 39]⟩ : ByteArray) _ W (prefix_f _ _)
      have c2 := fun W => strings_HasPrefix.calls (a0.extract p a0.size) (⟨#[36, 39]⟩ : ByteArray) _ W (prefix_f _ _)
      rw [hex, show bl (⟨#[92, 39]⟩ : ByteArray) = [92, 39] from rfl, show ([92, 39] : List UInt8).length = 2 from rfl] at c1
      rw [hex, show bl (⟨#[36, 39]⟩ : ByteArray) = [36, 39] from rfl, show ([36, 39] : List UInt8).length = 2 from rfl] at c2
      clear he hex
      generalize hB1 : (((bl a0).drop p).take 2 == [92, 39]) = B1 at c1 hHR
      generalize hB2 : (((bl a0).drop p).take 2 == [36, 39]) = B2 at c2 hHR
      cases B1 with
      | true =>
        rw [if_pos rfl] at hHR
        have hlt2 : p + 2 ≤ a0.size := by
          have := congrArg List.length (eq_of_beq hB1)
          rw [List.length_take, List.length_drop] at this
          have hl := len_list a0
          simp at this
          have : (bl a0).length = a0.size := hl
          omega
        have HN := Aside0.mk hHR
        clear hHR hB1 hB2 c2
        go_wp2_with (first | (go_at_call 26; refine (c1 _).mono ?_; rintro e w2 ⟨rfl, hd⟩; have hb2 := hd.below; have n0_ := Aside0.mk (Kd.R_below HO.out hb2); have n1_ := Aside0.mk (below_step HB.out hb2); clear HO; clear HB; have HO := n0_; have HB := n1_; clear n0_ n1_ hd hb2) | ((with_reducible refine gate_builtin (b := .append) (xs := #[.tmp 37, .tmp 38]) rfl ?_); (try (refine gate_guard (by rfl) ?_; dsimp only)); at_builtin; refine Kd.R_append (Kd.int .u8) (w0 := w1) w1.heap.size rfl (.tmp 37) (.tmp 38) 42 5 (.int .u8 0) 1 rfl Tryd.underlying42 info5 rfl (by decide) (by omega) v4 (ac acc) 39 [.int .u8 39] (fun _ => True) (fun _ => False) rfl rfl ?aP (fun _ hk => hk.elim) ?aF ?aO ?aB ?aS ?aL ?_; (case aP => exact rfl); (case aB => exact HB.out); (case aF => exact (fun _ _ => trivial)); (case aO => exact HO.out); (case aS => exact (below_size HB.out)); (case aL => simp only [ac, List.length_map]; omega); intro v4' w9 ho hb hg hat; have n0_ := Aside0.mk hb; have n1_ := Aside0.mk ho; clear HB; clear HO; have HB := n0_; have HO := n1_; clear n0_ n1_; clear ho hb hg hat))
        go_step3
        exact ⟨by decide, a0.size - q2, by omega, w1, _, c, hb1, hsz, hC, hc, v4', _, acc ++ [39], q2, ShFr.mk', congrArg (Value.int .i64) (by omega), by omega, rfl, by simp; omega, ⟨by rw [hq2]; exact HN.out⟩, ⟨by rw [ac_app]; exact HO.out⟩, HB⟩
      | false =>
      rw [if_neg (by decide)] at hHR
      cases B2 with
      | true =>
        rw [if_pos rfl] at hHR
        have hlt2 : p + 2 ≤ a0.size := by
          have := congrArg List.length (eq_of_beq hB2)
          rw [List.length_take, List.length_drop] at this
          have hl := len_list a0
          simp at this
          have : (bl a0).length = a0.size := hl
          omega
        have HN := Aside0.mk hHR
        clear hHR hB1 hB2
        go_wp2_with (first | (go_at_call 26; refine (c1 _).mono ?_; rintro e w2 ⟨rfl, hd⟩; have hb2 := hd.below; have n0_ := Aside0.mk (Kd.R_below HO.out hb2); have n1_ := Aside0.mk (below_step HB.out hb2); clear HO; clear HB; have HO := n0_; have HB := n1_; clear n0_ n1_ hd hb2) | (go_at_call 26; refine (c2 _).mono ?_; rintro e w2 ⟨rfl, hd⟩; have hb2 := hd.below; have n0_ := Aside0.mk (Kd.R_below HO.out hb2); have n1_ := Aside0.mk (below_step HB.out hb2); clear HO; clear HB; have HO := n0_; have HB := n1_; clear n0_ n1_ hd hb2))
        go_step3
        exact ⟨by decide, a0.size - q2, by omega, w1, _, c, hb1, hsz, hC, hc, v4, _, acc, q2, ShFr.mk', congrArg (Value.int .i64) (by omega), by omega, rfl, by omega, ⟨by rw [hq2]; exact HN.out⟩, HO, HB⟩
      | false =>
      rw [if_neg (by decide)] at hHR
      clear hB1 hB2
      by_cases g4 : ub a0 p = 39
      · rw [if_pos g4] at hHR
        have b4 : (((ub a0 p).toNat : Int) == 39) = true := by rw [g4]; rfl
        clear g4
        have c3 := fun W => strings_IndexByte.calls (a0.extract (p + 1) a0.size) 39 _ W rfl
        have hix : Lib.indexByte (a0.extract (p + 1) a0.size).data.toList (39 : Int).toNat.toUInt8 = Lib.indexByte ((bl a0).drop (p + 1)) 39 := by
          rw [show (a0.extract (p + 1) a0.size).data.toList = (bl a0).drop (p + 1) from ext_list a0 (p + 1)]
          rfl
        rw [hix] at c3
        clear hix
        have hlow := Lib.indexByte_ge ((bl a0).drop (p + 1)) 39
        have hsome : ∀ o : Nat, Lib.indexByte ((bl a0).drop (p + 1)) 39 = o → p + 1 + o < a0.size := by
          intro o ho
          have h1 := (Lib.indexByte_some ho).1
          have h2 : o < ((bl a0).drop (p + 1)).length := by
            rcases Nat.lt_or_ge o ((bl a0).drop (p + 1)).length with h | h
            · exact h
            · rw [List.getElem?_eq_none h] at h1; cases h1
          rw [List.length_drop] at h2
          have hl : (bl a0).length = a0.size := len_list a0
          omega
        by_cases g5 : Lib.indexByte ((bl a0).drop (p + 1)) 39 < 0
        · rw [if_pos g5] at hHR
          obtain ⟨rfl, rfl⟩ := Prod.mk.inj hHR
          clear hHR hsome
          have hm : Lib.indexByte ((bl a0).drop (p + 1)) 39 = -1 := by omega
          rw [hm] at c3
          clear hm g5 hlow
          have hp1 : (p : Int) + 1 ≤ (a0.size : Int) := by omega
          go_wp2_with (first | (go_at_call 26; refine (c1 _).mono ?_; rintro e w2 ⟨rfl, hd⟩; have hb2 := hd.below; have n0_ := Aside0.mk (Kd.R_below HO.out hb2); have n1_ := Aside0.mk (below_step HB.out hb2); clear HO; clear HB; have HO := n0_; have HB := n1_; clear n0_ n1_ hd hb2) | (go_at_call 26; refine (c2 _).mono ?_; rintro e w2 ⟨rfl, hd⟩; have hb2 := hd.below; have n0_ := Aside0.mk (Kd.R_below HO.out hb2); have n1_ := Aside0.mk (below_step HB.out hb2); clear HO; clear HB; have HO := n0_; have HB := n1_; clear n0_ n1_ hd hb2) | (go_at_call 27; refine (c3 _).mono ?_; rintro e w2 ⟨rfl, hb2⟩; have n0_ := Aside0.mk (Kd.R_below HO.out hb2); have n1_ := Aside0.mk (below_step HB.out hb2); clear HO; clear HB; have HO := n0_; have HB := n1_; clear n0_ n1_ hb2))
          (try simp only [Exit.two_ret])
          go_ret2
          exact ⟨rfl, hb1.out.trans (HB.out.mono hsz.out)⟩
        · rw [if_neg g5] at hHR
          obtain ⟨m, hm⟩ : ∃ m : Nat, Lib.indexByte ((bl a0).drop (p + 1)) 39 = m := ⟨(Lib.indexByte ((bl a0).drop (p + 1)) 39).toNat, by omega⟩
          have hpm := hsome m hm
          rw [hm] at c3 hHR
          rw [Int.toNat_natCast] at hHR
          clear hm g5 hlow hsome
          have HN := Aside0.mk hHR
          clear hHR
          have hp1 : (p : Int) + 1 ≤ (a0.size : Int) := by omega
          have hp2 : (p : Int) + 1 + (m : Int) ≤ (a0.size : Int) := by omega
          have hp3 : (p : Int) + 1 ≤ (p : Int) + 1 + (m : Int) := by omega
          have hm0 : ¬ ((m : Int) < 0) := by omega
          have hsl : a0.extract (p + 1) (p + 1 + m) = B (((bl a0).drop (p + 1)).take m) := by rw [ext_eq, show p + 1 + m - (p + 1) = m by omega]
          have hys : (a0.extract (p + 1) (p + 1 + m)).size ≤ 100000 := by rw [ByteArray.size_extract]; omega
          go_wp2_with (first | (go_at_call 26; refine (c1 _).mono ?_; rintro e w2 ⟨rfl, hd⟩; have hb2 := hd.below; have n0_ := Aside0.mk (Kd.R_below HO.out hb2); have n1_ := Aside0.mk (below_step HB.out hb2); clear HO; clear HB; have HO := n0_; have HB := n1_; clear n0_ n1_ hd hb2) | (go_at_call 26; refine (c2 _).mono ?_; rintro e w2 ⟨rfl, hd⟩; have hb2 := hd.below; have n0_ := Aside0.mk (Kd.R_below HO.out hb2); have n1_ := Aside0.mk (below_step HB.out hb2); clear HO; clear HB; have HO := n0_; have HB := n1_; clear n0_ n1_ hd hb2) | (go_at_call 27; refine (c3 _).mono ?_; rintro e w2 ⟨rfl, hb2⟩; have n0_ := Aside0.mk (Kd.R_below HO.out hb2); have n1_ := Aside0.mk (below_step HB.out hb2); clear HO; clear HB; have HO := n0_; have HB := n1_; clear n0_ n1_ hb2) | ((with_reducible refine gate_builtin (b := .append) (xs := #[.tmp 59, .tmp 67]) rfl ?_); (try (refine gate_guard (by rfl) ?_; dsimp only)); at_builtin; refine print_append_str (w0 := w1) w1.heap.size rfl (.tmp 59) (.tmp 67) 42 9 5 rfl Tryd.underlying42 Tryd.underlying9 info5 v4 (ac acc) (a0.extract (p + 1) (p + 1 + m)) rfl rfl (Kd.own_of_R HO.out) HB.out (below_size HB.out) ?aL ?_; (case aL => simp only [ac, List.length_map]; omega); intro v4' w9 ho hb hg; have n0_ := Aside0.mk hb; have n1_ := Aside0.mk ho; clear HB; clear HO; have HB := n0_; have HO := n1_; clear n0_ n1_; clear ho hb hg))
          go_step3
          have e9 : ac acc ++ bytesOf (a0.extract (p + 1) (p + 1 + m)) = ac (acc ++ ((bl a0).drop (p + 1)).take m) := by
            rw [ac_app, hsl]
            rfl
          have hlt9 : (((bl a0).drop (p + 1)).take m).length ≤ m := by rw [List.length_take]; omega
          rw [e9] at HO
          exact ⟨by decide, a0.size - (p + 1 + (m + 1)), by omega, w1, _, c, hb1, hsz, hC, hc, v4', _, acc ++ ((bl a0).drop (p + 1)).take m, p + 1 + (m + 1), ShFr.mk', congrArg (Value.int .i64) (by omega), by omega, rfl, by rw [List.length_append]; omega, HN, ⟨Kd.R_of_own HO.out (fun _ _ => trivial)⟩, HB⟩
      · rw [if_neg g4] at hHR
        obtain ⟨rfl, rfl⟩ := Prod.mk.inj hHR
        clear hHR
        have b4 : (((ub a0 p).toNat : Int) == 39) = false := by
          rw [beq_eq_false_iff_ne]
          intro e
          apply g4
          apply UInt8.toNat.inj
          have : (39 : UInt8).toNat = 39 := rfl
          omega
        clear g4
        go_wp2_with (first | (go_at_call 26; refine (c1 _).mono ?_; rintro e w2 ⟨rfl, hd⟩; have hb2 := hd.below; have n0_ := Aside0.mk (Kd.R_below HO.out hb2); have n1_ := Aside0.mk (below_step HB.out hb2); clear HO; clear HB; have HO := n0_; have HB := n1_; clear n0_ n1_ hd hb2) | (go_at_call 26; refine (c2 _).mono ?_; rintro e w2 ⟨rfl, hd⟩; have hb2 := hd.below; have n0_ := Aside0.mk (Kd.R_below HO.out hb2); have n1_ := Aside0.mk (below_step HB.out hb2); clear HO; clear HB; have HO := n0_; have HB := n1_; clear n0_ n1_ hd hb2))
        (try simp only [Exit.two_ret])
        go_ret2
        exact ⟨rfl, hb1.out.trans (HB.out.mono hsz.out)⟩
    · have n1 : (p : Int) ≥ (a0.size : Int) := by omega
      have hHR := HR.out
      rw [sh_end a0 p _ acc (by omega), if_pos rfl] at hHR
      obtain ⟨rfl, rfl⟩ := Prod.mk.inj hHR
      clear hHR HR
      have hcv := own_string (P := Tryd.prog) Tryd.underlying42 Tryd.underlying5 Tryd.underlying9 (Kd.own_of_R HO.out)
      rw [ac_str] at hcv
      go_wp2
      (try simp only [Exit.two_ret])
      go_ret2
      exact ⟨rfl, hb1.out.trans (HB.out.mono hsz.out)⟩
  case p1 =>
    rintro n a wr ⟨w1, A, c, hb1, hsz, hC, hc, v4, v6, acc, p, ⟨u, rfl⟩, rfl, hp, rfl, hacc, HR, HO, HB⟩
    by_cases hlt : p < a0.size
    · have n1 : ¬ ((p : Int) ≥ (a0.size : Int)) := by omega
      have n2 : (p : Int) < (a0.size : Int) := by omega
      have n5 : (0 : Int) ≤ (p : Int) := by omega
      have hHR := HR.out
      clear HR
      rw [sh2_eq a0 p acc hlt] at hHR
      have hx : ∀ h : p < a0.size, ((a0[p]'h).toNat : Int) = bt a0 (p : Int) := bt_at a0 (p : Int)
      have hub := bt_ub a0 p hlt
      obtain ⟨q1, hq1⟩ : ∃ q : Nat, q = p + 1 := ⟨_, rfl⟩
      have hw1 : IntKind.i64.wrap ((p : Int) + 1) = (q1 : Int) := by rw [i64_w, wrap_id _ (by omega) (by omega)]; omega
      have u39 : ((ub a0 p).toNat : Int) = 39 ↔ ub a0 p = 39 := by
        constructor
        · intro e
          apply UInt8.toNat.inj
          have : (39 : UInt8).toNat = 39 := rfl
          omega
        · intro e; rw [e]; rfl
      have u92 : ((ub a0 p).toNat : Int) = 92 ↔ ub a0 p = 92 := by
        constructor
        · intro e
          apply UInt8.toNat.inj
          have : (92 : UInt8).toNat = 92 := rfl
          omega
        · intro e; rw [e]; rfl
      by_cases g1 : ub a0 p = 39
      · rw [if_pos g1] at hHR
        have HN := Aside0.mk hHR
        clear hHR
        have b1 : (((ub a0 p).toNat : Int) == 39) = true := beq_iff_eq.2 (u39.2 g1)
        clear g1 u39 u92
        go_wp2
        go_step3
        exact ⟨by decide, a0.size - q1, by omega, w1, _, c, hb1, hsz, hC, hc, v4, _, acc, q1, ShFr.mk', congrArg (Value.int .i64) (by omega), by omega, rfl, by omega, ⟨by rw [hq1]; exact HN.out⟩, HO, HB⟩
      rw [if_neg g1] at hHR
      have b1 : (((ub a0 p).toNat : Int) == 39) = false := beq_eq_false_iff_ne.2 fun e => g1 (u39.1 e)
      clear g1 u39
      by_cases g2 : ub a0 p = 92
      · rw [if_pos g2] at hHR
        have b2 : (((ub a0 p).toNat : Int) != 92) = false := bne_eq_false_iff_eq.2 (u92.2 g2)
        clear g2 u92
        have c4 := fun W => quote_unescape.calls (a0.extract (p + 1) a0.size) _ _ W (unescape_f _)
        rw [show bl (a0.extract (p + 1) a0.size) = (bl a0).drop (p + 1) from ext_list a0 (p + 1)] at c4
        have hp1 : (p : Int) + 1 ≤ (a0.size : Int) := by omega
        have hul := unL_len ((bl a0).drop (p + 1))
        rw [List.length_drop, show (bl a0).length = a0.size from len_list a0] at hul
        generalize hU : unL ((bl a0).drop (p + 1)) = U at c4 hHR hul
        obtain ⟨ch, m⟩ := U
        clear hU
        have hul1 : m ≤ a0.size - (p + 1) := hul.1
        have hul2 : m ≤ 3 := hul.2
        clear hul
        by_cases g3 : m = 0
        · subst g3
          rw [if_pos rfl] at hHR
          obtain ⟨rfl, rfl⟩ := Prod.mk.inj hHR
          clear hHR
          go_wp2_with (first | (go_at_call 28; refine (c4 _).mono ?_; rintro e w2 ⟨rfl, hd⟩; have hb2 := hd.below; have n0_ := Aside0.mk (Kd.R_below HO.out hb2); have n1_ := Aside0.mk (below_step HB.out hb2); clear HO; clear HB; have HO := n0_; have HB := n1_; clear n0_ n1_ hd hb2))
          (try simp only [Exit.two_ret])
          go_ret2
          exact ⟨rfl, hb1.out.trans (HB.out.mono hsz.out)⟩
        · rw [if_neg (show ¬ ((ch, m) : UInt8 × Nat).2 = 0 from g3)] at hHR
          have HN := Aside0.mk hHR
          clear hHR
          have b3 : ((m : Int) == 0) = false := beq_eq_false_iff_ne.2 (by omega)
          go_wp2_with (first | (go_at_call 28; refine (c4 _).mono ?_; rintro e w2 ⟨rfl, hd⟩; have hb2 := hd.below; have n0_ := Aside0.mk (Kd.R_below HO.out hb2); have n1_ := Aside0.mk (below_step HB.out hb2); clear HO; clear HB; have HO := n0_; have HB := n1_; clear n0_ n1_ hd hb2) | ((with_reducible refine gate_builtin (b := .append) (xs := #[.tmp 105, .tmp 107]) rfl ?_); (try (refine gate_guard (by rfl) ?_; dsimp only)); at_builtin; refine Kd.R_append (Kd.int .u8) (w0 := w1) w1.heap.size rfl (.tmp 105) (.tmp 107) 42 5 (.int .u8 0) 1 rfl Tryd.underlying42 info5 rfl (by decide) (by omega) v4 (ac acc) (ch.toNat : Int) [.int .u8 (ch.toNat : Int)] (fun _ => True) (fun _ => False) rfl rfl ?aP (fun _ hk => hk.elim) ?aF ?aO ?aB ?aS ?aL ?_; (case aP => exact rfl); (case aB => exact HB.out); (case aF => exact (fun _ _ => trivial)); (case aO => exact HO.out); (case aS => exact (below_size HB.out)); (case aL => simp only [ac, List.length_map]; omega); intro v4' w9 ho hb hg hat; have n0_ := Aside0.mk hb; have n1_ := Aside0.mk ho; clear HB; clear HO; have HB := n0_; have HO := n1_; clear n0_ n1_; clear ho hb hg hat))
          go_step3
          exact ⟨by decide, a0.size - (p + 1 + m), by omega, w1, _, c, hb1, hsz, hC, hc, v4', _, acc ++ [ch], p + 1 + m, ShFr.mk', congrArg (Value.int .i64) (by omega), by omega, rfl, by simp; omega, HN, ⟨by rw [ac_app]; exact HO.out⟩, HB⟩
      · rw [if_neg g2] at hHR
        have b2 : (((ub a0 p).toNat : Int) != 92) = true := bne_iff_ne.2 fun e => g2 (u92.1 e)
        clear g2 u92
        obtain ⟨rfl, rfl⟩ := Prod.mk.inj hHR
        clear hHR
        go_wp2
        (try simp only [Exit.two_ret])
        go_ret2
        exact ⟨rfl, hb1.out.trans (HB.out.mono hsz.out)⟩
    · have n1 : (p : Int) ≥ (a0.size : Int) := by omega
      have n2 : ¬ ((p : Int) < (a0.size : Int)) := by omega
      have hHR := HR.out
      rw [sh_end a0 p _ acc (by omega), if_neg (by decide)] at hHR
      obtain ⟨rfl, rfl⟩ := Prod.mk.inj hHR
      clear hHR HR
      go_wp2
      (try simp only [Exit.two_ret])
      go_ret2
      exact ⟨rfl, hb1.out.trans (HB.out.mono hsz.out)⟩
end Go.Proofs.YtkhbgfnbkdonlaaDoor.QQuo
