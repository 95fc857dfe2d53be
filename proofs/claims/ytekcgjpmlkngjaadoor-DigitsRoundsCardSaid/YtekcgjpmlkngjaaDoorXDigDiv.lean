/- bits.Div64, bits.Add64, digits.Percent. -/
import Derived.Test.YtekcgjpmlkngjaaDoorXDigT
import Derived.Test.YtekcgjpmlkngjaaDoorDivMath
import Derived.Test.YtekcgjpmlkngjaaDoorVArr
import Derived.Shelf.Spec.BitsCarry
import Derived.WalkKit
import Derived.Deep.QuietTactic
import Derived.BigQuiet
import Derived.Laws.BitsLemmas
import Derived.IntWalk
import Derived.Lib.EndianBits
import Derived.Lib.ItoaNum
import Derived.WalkSpells
import Derived.Deep.DeepCutAuto
import Derived.Deep.CutBlock
namespace Go.Proofs.YtekcgjpmlkngjaaDoor.Ext
open Go.RowKit Go.Shelf Go.Lib Go.Proofs.YtekcgjpmlkngjaaDoorW.PrintWords Go.Proofs.YtekcgjpmlkngjaaDoorW.PrintLast Go.Proofs.YtekcgjpmlkngjaaDoorW.PrintMore
attribute [local go_sem] max2_int min2_int max_two min_two max_three min_three max_four min_four   -- for this text's walks alone
set_option linter.unusedVariables false
set_option linter.unusedSimpArgs false
def lays7_25_ren : Ren := ⟨fun | 25 => 26 | n => n, fun | 22 => 36 | n => n, fun | n => n⟩
theorem lays7_25 : Lays7.n25 Tryd.prog lays7_25_ren := {
  mixed := by kernel_rfl
  f25 := Tryd.func26.trans (congrArg some (by kernel_rfl))
  t22 := Tryd.underlying36
  a22 := Tryd.isAgg36
  z22 := Tryd.sizeOf36
  v22 := Tryd.zeroValue36
  i22 := by kernel_rfl }
theorem add64_run (x y : Nat) (w : World) : (callFunc 26 #[.int .u64 x, .int .u64 y, .int .u64 0]).run Tryd.prog w =
    .ok (.value (.tuple #[.int .u64 (((x + y + 0) % 18446744073709551616 : Nat) : Int), .int .u64 (((x + y + 0) / 18446744073709551616 : Nat) : Int)])) w := Any7.bits_Add64 lays7_25 x y 0 (by omega) w
def DivPost (n y : Nat) (w : World) (e : Ending) (w' : World) : Prop := ∃ r : Value, e = .returned (.tuple #[.int .u64 ((n / y : Nat) : Int), r]) ∧ Below w.heap.size w w'
/-- The test of a guess, as the loop reckons it. -/
structure Test (a b U u q r : Nat) : Prop where
  c1 : IntKind.u64.wrap ((q : Int) * b) = ((q * b : Nat) : Int)
  c2 : IntKind.u64.wrap (4294967296 * (r : Int)) = ((4294967296 * r : Nat) : Int)
  c3 : IntKind.u64.wrap (((4294967296 * r : Nat) : Int) + u) = ((4294967296 * r + u : Nat) : Int)
theorem test_of {a b U u q r : Nat} (hq : q < 4294967296) (hb : b < 4294967296) (hr : r < 4294967296) (hu : u < 4294967296) : Test a b U u q r where
  c1 := by
    have h : q * b ≤ 4294967295 * 4294967295 := Nat.mul_le_mul (by omega) (by omega)
    rw [← Int.natCast_mul]; exact IntWalk.u64_in _ ⟨by omega, by omega⟩
  c2 := by rw [show (4294967296 : Int) * (r : Int) = ((4294967296 * r : Nat) : Int) by omega]; exact IntWalk.u64_in _ ⟨by omega, by omega⟩
  c3 := by rw [show ((4294967296 * r : Nat) : Int) + (u : Int) = ((4294967296 * r + u : Nat) : Int) by omega]; exact IntWalk.u64_in _ ⟨by omega, by omega⟩
/-- What a second digit is reckoned from: the words wrap round, the numbers don't. -/
theorem rest_of {U u Y t : Nat} (hY : Y < 18446744073709551616) (h : U * 4294967296 + u - t * Y < Y) (hle : t * Y ≤ U * 4294967296 + u) :
    IntKind.u64.wrap (IntKind.u64.wrap (IntKind.u64.wrap ((U : Int) * 4294967296) + u) - IntKind.u64.wrap ((t : Int) * Y)) = ((U * 4294967296 + u - t * Y : Nat) : Int) := by
  have e : (t : Int) * Y = ((t * Y : Nat) : Int) := by push_cast; rfl
  rw [e]
  generalize t * Y = z at *
  simp only [IntKind.wrap_u64]
  omega
theorem first_of {X a b : Nat} (ha : 0 < a) (hal : a < 4294967296) (hl : a * 4294967296 + b < 18446744073709551616) (hX : X < a * 4294967296 + b) :
    (IntKind.u64.wrap ((X : Int) / a) = ((X / a : Nat) : Int)) ∧ (IntKind.u64.wrap ((X : Int) - IntKind.u64.wrap (((X / a : Nat) : Int) * a)) = ((X % a : Nat) : Int)) ∧ X % a < 4294967296 := by
  have h1 : X / a * a ≤ X := Nat.div_mul_le_self _ _
  have h2 : X / a * a + X % a = X := by rw [Nat.mul_comm]; exact Nat.div_add_mod X a
  have h3 := Nat.mod_lt X ha
  have h4 : X / a ≤ X := Nat.div_le_self _ _
  have e1 : (X : Int) / a = ((X / a : Nat) : Int) := by rw [Int.natCast_ediv]
  rw [e1, ← Int.natCast_mul]
  clear e1
  generalize X / a * a = z at *
  generalize X / a = Q at *
  generalize X % a = R at *
  refine ⟨IntWalk.u64_in _ ⟨by omega, by omega⟩, ?_, by omega⟩
  have e2 : IntKind.u64.wrap (z : Int) = z := IntWalk.u64_in _ ⟨by omega, by omega⟩
  rw [e2, IntWalk.u64_in _ ⟨by omega, by omega⟩]; omega
theorem fin_of {t t2 : Nat} (h1 : t < 4294967296) (h2 : t2 < 4294967296) : IntKind.u64.wrap (IntKind.u64.wrap ((t : Int) * 4294967296) + t2) = (t : Int) * 4294967296 + t2 := by
  have e1 : IntKind.u64.wrap ((t : Int) * 4294967296) = (t : Int) * 4294967296 := IntWalk.u64_in _ ⟨by omega, by omega⟩
  rw [e1]; exact IntWalk.u64_in _ ⟨by omega, by omega⟩
set_option maxHeartbeats 4000000 in
set_option maxRecDepth 100000 in
theorem div64_calls (hi lo y s Y a b U V u1 u0 t U2 t2 : Nat) (w : World)
    (hlz : ∀ w, Calls Tryd.prog 33 #[.int .u64 (y : Int)] w fun e w' => e = .returned (.int .i64 (s : Int)) ∧ w' = w)
    (g1 : ¬ (y : Int) ≤ hi) (g2 : (y : Int) ≠ 0) (g3 : (hi : Int) ≠ 0) (g4 : (a : Int) ≠ 0) (g5 : a ≠ 0)
    (e1 : IntKind.u64.wrap (s : Int) = s) (e2 : min s 64 = s) (e3 : IntKind.u64.wrap ((y : Int) * 2 ^ s) = Y) (e4 : (Y : Int) / 4294967296 = a) (e5 : bits .and .u64 (Y : Int) 4294967295 = b)
    (e6 : bits .or .u64 (IntKind.u64.wrap ((hi : Int) * 2 ^ s)) ((lo : Int) / 2 ^ (64 - s)) = U) (e7 : IntKind.u64.wrap ((lo : Int) * 2 ^ s) = V) (e8 : (V : Int) / 4294967296 = u1) (e9 : bits .and .u64 (V : Int) 4294967295 = u0)
    (hY : Y = a * 4294967296 + b) (hYl : Y < 18446744073709551616) (ha : 0 < a) (hal : a < 4294967296) (hb : b < 4294967296) (hU : U < Y) (hu1 : u1 < 4294967296) (hu0 : u0 < 4294967296)
    (ht : t = (U * 4294967296 + u1) / (a * 4294967296 + b)) (hU2 : U2 = U * 4294967296 + u1 - t * Y) (ht2 : t2 = (U2 * 4294967296 + u0) / (a * 4294967296 + b)) (hq : (hi * 18446744073709551616 + lo) / y = t * 4294967296 + t2) :
    Calls Tryd.prog 27 #[.int .u64 (hi : Int), .int .u64 (lo : Int), .int .u64 (y : Int)] w (DivPost (hi * 18446744073709551616 + lo) y w) := by
  have HLZ := Aside0.mk hlz
  have first := fun X hX => first_of (X := X) (a := a) (b := b) ha hal (by omega) hX
  have rest := DivMath.two Y 4294967296 U u1 u0 t (by omega) (by rw [hY]; exact ht)
  have hU2l : U2 < Y := by rw [hU2]; exact rest.2
  have htl : t < 4294967296 := by rw [ht]; exact DivMath.lt_base (by omega) hu1
  have ht2l : t2 < 4294967296 := by rw [ht2]; exact DivMath.lt_base (by omega) hu0
  have r1 := rest_of hYl rest.2 (by rw [ht, hY]; exact Nat.div_mul_le_self _ _)
  rw [← hU2] at r1
  obtain ⟨f1, f2, f3⟩ := first U (by omega)
  obtain ⟨f4, f5, f6⟩ := first U2 (by omega)
  have fin := fin_of htl ht2l
  have A1 := DivMath.first (U := U) (b := b) ha hu1
  rw [← ht] at A1
  have A2 := DivMath.first (U := U2) (b := b) ha hu0
  rw [← ht2] at A2
  generalize hQ1 : U / a = Q1 at *
  generalize hR1 : U % a = R1 at *
  generalize hQ2 : U2 / a = Q2 at *
  generalize hR2 : U2 % a = R2 at *
  have HH := Aside0.mk (And.intro ha (And.intro hal (And.intro hb (And.intro hu1 (And.intro hu0 (And.intro hYl (And.intro hY (And.intro hU hU2l))))))))
  have HT := Aside0.mk (And.intro ht ht2)
  have HA1 := Aside0.mk (And.intro A1 f3)
  have HA2 := Aside0.mk (And.intro A2 f6)
  have HQ := Aside0.mk hq
  clear hlz ha hal hb hu1 hu0 hYl hY hU hU2l ht ht2 A1 A2 f3 f6 first rest htl ht2l hq hU2 hQ1 hR1 hQ2 hR2
  go_enter Tryd.func27, Tryd.ntmps27
  go_upto_block 0 with (go_at_call 33; refine (HLZ.out _).mono ?_; rintro e w' ⟨rfl, rfl⟩)
  clear e1 e2 e3 e4 e5 e6 e7 e8 e9 f1 f2
  go_cut [15, 16] (fun x z wx => w' = wx ∧ x = .int .u64 t ∧ ∃ r : Nat, z = .int .u64 r)
  case first =>
    go_wp2_with fail
    go_loop [15, 16] (fun x z => ∃ q r : Nat, x = .int .u64 q ∧ z = .int .u64 r ∧ Aside0 (DivMath.At a b 4294967296 U u1 t q r ∧ r < 4294967296)) (fun x _ => (RowKit.intOf x).toNat)
    case atStart => exact ⟨_, _, rfl, rfl, HA1⟩
    case round =>
      obtain ⟨q, r, rfl, rfl, HI⟩ := hrel
      have ⟨ha, hal, hb, hu1, hu0, hYl, hY, hU, hU2l⟩ := HH.out
      have hU' : U < a * 4294967296 + b := by omega
      by_cases hgo : 4294967296 ≤ q ∨ (q < 4294967296 ∧ 4294967296 * r + u1 < q * b)
      · have htq := DivMath.too_great HI.out.1 HT.out.1 hU' hu1 (hgo.imp id (fun h => h.2))
        have hn := DivMath.next HI.out.1 htq
        have n1 : IntKind.u64.wrap ((q : Int) - 1) = ((q - 1 : Nat) : Int) := by rw [IntWalk.u64_in _ ⟨by omega, by have := DivMath.small HI.out.1 hU' hb ha; omega⟩]; omega
        have n2 : IntKind.u64.wrap ((r : Int) + a) = ((r + a : Nat) : Int) := by rw [IntWalk.u64_in _ ⟨by omega, by have := HI.out.2; omega⟩]; omega
        generalize hq' : q - 1 = q' at *
        generalize hr' : r + a = r' at *
        have HN := Aside0.mk (And.intro hn (And.intro htq hq'))
        have HR := Aside0.mk HI.out.2
        by_cases hbr : (4294967296 : Int) ≤ (r' : Int)
        · have HD := Aside0.mk (DivMath.done hn HT.out.1 hU' hb (by omega))
          by_cases hB : (4294967296 : Int) ≤ (q : Int)
          · clear hgo htq hn hq' hr' HI ha hal hb hu1 hu0 hYl hY hU hU2l hU'
            go_wp2_with fail
            go_meet
            exact ⟨rfl, by rw [HD.out], _, rfl⟩
          · have T := test_of (a := a) (U := U) (q := q) (b := b) (r := r) (u := u1) (by omega) hb HI.out.2 hu1
            have t1 := T.c1
            have t2' := T.c2
            have t3 := T.c3
            have b2 : ((4294967296 * r + u1 : Nat) : Int) < ((q * b : Nat) : Int) := by omega
            clear hgo htq hn hq' hr' HI ha hal hb hu1 hu0 hYl hY hU hU2l hU' T
            generalize hm1 : q * b = m1 at *
            generalize hm2 : 4294967296 * r + u1 = m2 at *
            generalize hm3 : 4294967296 * r = m3 at *
            clear hm1 hm2 hm3
            go_wp2_with fail
            go_meet
            exact ⟨rfl, by rw [HD.out], _, rfl⟩
        · have HB2 := Aside0.mk hbr
          by_cases hB : (4294967296 : Int) ≤ (q : Int)
          · clear hgo htq hn hq' hr' HI ha hal hb hu1 hu0 hYl hY hU hU2l hU'
            go_wp2_with fail
            go_round
            case rel => exact ⟨_, _, rfl, rfl, Aside0.mk ⟨HN.out.1, by have := HB2.out; omega⟩⟩
            case measure => have := HN.out.2; simp [RowKit.intOf]; omega
          · have T := test_of (a := a) (U := U) (q := q) (b := b) (r := r) (u := u1) (by omega) hb HI.out.2 hu1
            have t1 := T.c1
            have t2' := T.c2
            have t3 := T.c3
            have b2 : ((4294967296 * r + u1 : Nat) : Int) < ((q * b : Nat) : Int) := by omega
            clear hgo htq hn hq' hr' HI ha hal hb hu1 hu0 hYl hY hU hU2l hU' T
            generalize hm1 : q * b = m1 at *
            generalize hm2 : 4294967296 * r + u1 = m2 at *
            generalize hm3 : 4294967296 * r = m3 at *
            clear hm1 hm2 hm3
            go_wp2_with fail
            go_round
            case rel => exact ⟨_, _, rfl, rfl, Aside0.mk ⟨HN.out.1, by have := HB2.out; omega⟩⟩
            case measure => have := HN.out.2; simp [RowKit.intOf]; omega
      · have hB : ¬ (4294967296 : Int) ≤ (q : Int) := by omega
        have HD := Aside0.mk (DivMath.right HI.out.1 HT.out.1 (by omega) (by omega))
        have T := test_of (a := a) (U := U) (q := q) (b := b) (r := r) (u := u1) (by omega) hb HI.out.2 hu1
        have t1 := T.c1
        have t2' := T.c2
        have t3 := T.c3
        have b2 : ¬ ((4294967296 * r + u1 : Nat) : Int) < ((q * b : Nat) : Int) := by omega
        clear hgo HI ha hal hb hu1 hu0 hYl hY hU hU2l hU' T
        generalize hm1 : q * b = m1 at *
        generalize hm2 : 4294967296 * r + u1 = m2 at *
        generalize hm3 : 4294967296 * r = m3 at *
        clear hm1 hm2 hm3
        go_wp2_with fail
        go_meet
        exact ⟨rfl, by rw [HD.out], _, rfl⟩
  case rest =>
    obtain ⟨rfl, rfl, r, rfl⟩ := hcut
    go_upto_block 2 with fail
    go_cut [18, 16] (fun x z wx => w' = wx ∧ x = .int .u64 t2 ∧ ∃ r : Nat, z = .int .u64 r)
    case first =>
      go_wp2_with fail
      go_loop [18, 16] (fun x z => ∃ q r : Nat, x = .int .u64 q ∧ z = .int .u64 r ∧ Aside0 (DivMath.At a b 4294967296 U2 u0 t2 q r ∧ r < 4294967296)) (fun x _ => (RowKit.intOf x).toNat)
      case atStart => exact ⟨_, _, rfl, rfl, HA2⟩
      case round =>
        obtain ⟨q, r, rfl, rfl, HI⟩ := hrel
        have ⟨ha, hal, hb, hu1, hu0, hYl, hY, hU, hU2l⟩ := HH.out
        have hU' : U2 < a * 4294967296 + b := by omega
        by_cases hgo : 4294967296 ≤ q ∨ (q < 4294967296 ∧ 4294967296 * r + u0 < q * b)
        · have htq := DivMath.too_great HI.out.1 HT.out.2 hU' hu0 (hgo.imp id (fun h => h.2))
          have hn := DivMath.next HI.out.1 htq
          have n1 : IntKind.u64.wrap ((q : Int) - 1) = ((q - 1 : Nat) : Int) := by rw [IntWalk.u64_in _ ⟨by omega, by have := DivMath.small HI.out.1 hU' hb ha; omega⟩]; omega
          have n2 : IntKind.u64.wrap ((r : Int) + a) = ((r + a : Nat) : Int) := by rw [IntWalk.u64_in _ ⟨by omega, by have := HI.out.2; omega⟩]; omega
          generalize hq' : q - 1 = q' at *
          generalize hr' : r + a = r' at *
          have HN := Aside0.mk (And.intro hn (And.intro htq hq'))
          have HR := Aside0.mk HI.out.2
          by_cases hbr : (4294967296 : Int) ≤ (r' : Int)
          · have HD := Aside0.mk (DivMath.done hn HT.out.2 hU' hb (by omega))
            by_cases hB : (4294967296 : Int) ≤ (q : Int)
            · clear hgo htq hn hq' hr' HI ha hal hb hu1 hu0 hYl hY hU hU2l hU'
              go_wp2_with fail
              go_meet
              exact ⟨rfl, by rw [HD.out], _, rfl⟩
            · have T := test_of (a := a) (U := U2) (q := q) (b := b) (r := r) (u := u0) (by omega) hb HI.out.2 hu0
              have t1 := T.c1
              have t2' := T.c2
              have t3 := T.c3
              have b2 : ((4294967296 * r + u0 : Nat) : Int) < ((q * b : Nat) : Int) := by omega
              clear hgo htq hn hq' hr' HI ha hal hb hu1 hu0 hYl hY hU hU2l hU' T
              generalize hm1 : q * b = m1 at *
              generalize hm2 : 4294967296 * r + u0 = m2 at *
              generalize hm3 : 4294967296 * r = m3 at *
              clear hm1 hm2 hm3
              go_wp2_with fail
              go_meet
              exact ⟨rfl, by rw [HD.out], _, rfl⟩
          · have HB2 := Aside0.mk hbr
            by_cases hB : (4294967296 : Int) ≤ (q : Int)
            · clear hgo htq hn hq' hr' HI ha hal hb hu1 hu0 hYl hY hU hU2l hU'
              go_wp2_with fail
              go_round
              case rel => exact ⟨_, _, rfl, rfl, Aside0.mk ⟨HN.out.1, by have := HB2.out; omega⟩⟩
              case measure => have := HN.out.2; simp [RowKit.intOf]; omega
            · have T := test_of (a := a) (U := U2) (q := q) (b := b) (r := r) (u := u0) (by omega) hb HI.out.2 hu0
              have t1 := T.c1
              have t2' := T.c2
              have t3 := T.c3
              have b2 : ((4294967296 * r + u0 : Nat) : Int) < ((q * b : Nat) : Int) := by omega
              clear hgo htq hn hq' hr' HI ha hal hb hu1 hu0 hYl hY hU hU2l hU' T
              generalize hm1 : q * b = m1 at *
              generalize hm2 : 4294967296 * r + u0 = m2 at *
              generalize hm3 : 4294967296 * r = m3 at *
              clear hm1 hm2 hm3
              go_wp2_with fail
              go_round
              case rel => exact ⟨_, _, rfl, rfl, Aside0.mk ⟨HN.out.1, by have := HB2.out; omega⟩⟩
              case measure => have := HN.out.2; simp [RowKit.intOf]; omega
        · have hB : ¬ (4294967296 : Int) ≤ (q : Int) := by omega
          have HD := Aside0.mk (DivMath.right HI.out.1 HT.out.2 (by omega) (by omega))
          have T := test_of (a := a) (U := U2) (q := q) (b := b) (r := r) (u := u0) (by omega) hb HI.out.2 hu0
          have t1 := T.c1
          have t2' := T.c2
          have t3 := T.c3
          have b2 : ¬ ((4294967296 * r + u0 : Nat) : Int) < ((q * b : Nat) : Int) := by omega
          clear hgo HI ha hal hb hu1 hu0 hYl hY hU hU2l hU' T
          generalize hm1 : q * b = m1 at *
          generalize hm2 : 4294967296 * r + u0 = m2 at *
          generalize hm3 : 4294967296 * r = m3 at *
          clear hm1 hm2 hm3
          go_wp2_with fail
          go_meet
          exact ⟨rfl, by rw [HD.out], _, rfl⟩
    case rest =>
      obtain ⟨rfl, rfl, r2, rfl⟩ := hcut
      go_wp2_with fail
      go_ret2
      have hn : (((hi * 18446744073709551616 + lo) / y : Nat) : Int) = (t : Int) * 4294967296 + t2 := by rw [HQ.out]; omega
      exact ⟨_, by rw [hn]; rfl, Below.refl _ _⟩
theorem and_mask (x : Nat) (h : x < 18446744073709551616) : bits .and .u64 (x : Int) 4294967295 = ((x % 4294967296 : Nat) : Int) := by
  have := bits_mask .u64 64 (by decide) wraps_u64 32 (by decide) (x : Int) (by omega) (by omega)
  rw [show (4294967295 : Int) = 2 ^ 32 - 1 by decide, this]; omega
theorem or_sum (h l s : Nat) (hs : s ≤ 64) (hh : h * 2 ^ s < 2 ^ 64) (hl : l < 2 ^ s) : bits .or .u64 ((h * 2 ^ s : Nat) : Int) (l : Int) = ((h * 2 ^ s + l : Nat) : Int) := by
  have h2 : (2 : Nat) ^ s ≤ 2 ^ 64 := Nat.pow_le_pow_right (by omega) hs
  have hm : ((h * 2 ^ s : Nat) : Int) % 2 ^ s = 0 := by
    rw [show ((2 : Int) ^ s) = ((2 ^ s : Nat) : Int) by push_cast; rfl, ← Int.natCast_emod, Nat.mul_mod_left]; rfl
  have hl2 : l < 2 ^ 64 := by omega
  rw [bits_join .u64 64 (by decide) wraps_u64 s _ _ (Int.natCast_nonneg _) hm (by exact_mod_cast hh) (Int.natCast_nonneg _) (by exact_mod_cast hl) (by exact_mod_cast hl2)]
  rw [← Int.natCast_add]
/-- Two words by one: the quotient. -/
theorem div64_any (hi lo y : Nat) (h1 : hi < y) (hy : y < 18446744073709551616) (hlo : lo < 18446744073709551616) (w : World) :
    Calls Tryd.prog 27 #[.int .u64 (hi : Int), .int .u64 (lo : Int), .int .u64 (y : Int)] w (DivPost (hi * 18446744073709551616 + lo) y w) := by
  by_cases h0 : hi = 0
  · subst h0
    have g1 : ¬ (y : Int) ≤ 0 := by omega
    have g2 : (y : Int) ≠ 0 := by omega
    have e1 : IntKind.u64.wrap ((lo : Int) / y) = ((lo / y : Nat) : Int) := by
      have : lo / y ≤ lo := Nat.div_le_self _ _
      rw [← Int.natCast_ediv]
      generalize lo / y = q at *
      exact IntWalk.u64_in _ ⟨by omega, by omega⟩
    have hz : 0 * 18446744073709551616 + lo = lo := by omega
    rw [hz]
    clear hz
    have g3 : lo / y ≤ lo := Nat.div_le_self _ _
    generalize hq : lo / y = q at *
    have HQ := Aside0.mk hq
    clear hq g3
    show Calls Tryd.prog 27 #[.int .u64 0, .int .u64 (lo : Int), .int .u64 (y : Int)] w _
    go_enter Tryd.func27, Tryd.ntmps27
    go_wp2_with fail
    go_quiet (fail)
    go_wp2_with fail
    go_ret2
    exact ⟨_, by rw [HQ.out]; rfl, by first | exact Below.refl _ _ | apply pw_below_drewN; exact Below.refl _ _⟩
  · obtain ⟨b1, b2, b3⟩ := Lib.bitLenAux_bounds 64 y hy (by omega)
    have hle : Lib.bitLenAux 64 y ≤ 64 := Lib.bitLen_le y 64 (Nat.le_refl _) hy
    obtain ⟨s, hs⟩ : ∃ s, s = 64 - Lib.bitLenAux 64 y := ⟨_, rfl⟩
    have hlz : ∀ w, Calls Tryd.prog 33 #[.int .u64 (y : Int)] w fun e w' => e = .returned (.int .i64 (s : Int)) ∧ w' = w := fun w => by
      have := Tryd.bits_LeadingZeros64 (y : Int) w (by omega) (by omega)
      rw [Int.toNat_natCast, show (64 : Int) - (Lib.bitLen y : Int) = (s : Int) by unfold Lib.bitLen; omega] at this
      exact this
    generalize Lib.bitLenAux 64 y = L at *
    have hp : 0 < 2 ^ s := Nat.two_pow_pos s
    have eL : 2 ^ L * 2 ^ s = 2 ^ 64 := by rw [← Nat.pow_add]; congr 1; omega
    have eL1 : 2 ^ (L - 1) * 2 ^ s = 2 ^ 63 := by rw [← Nat.pow_add]; congr 1; omega
    have hY1 : y * 2 ^ s < 2 ^ 64 := by rw [← eL]; exact Nat.mul_lt_mul_of_pos_right b3 hp
    have hY2 : 2 ^ 63 ≤ y * 2 ^ s := by rw [← eL1]; exact Nat.mul_le_mul_right _ b2
    obtain ⟨k1, k2, k3, k4⟩ := DivMath.shifted hi lo y s hY1 h1 (by omega) (by omega)
    have hyq : (hi * 18446744073709551616 + lo) / y = ((hi * 2 ^ 64 + lo) * 2 ^ s) / (y * 2 ^ s) := by rw [Nat.mul_div_mul_right _ _ hp]
    rw [← k2] at hyq
    have hsum := or_sum hi (lo / 2 ^ (64 - s)) s (by omega) k4 k3
    have e2s : ((2 : Int) ^ s) = ((2 ^ s : Nat) : Int) := by push_cast; rfl
    have e2t : ((2 : Int) ^ (64 - s)) = ((2 ^ (64 - s) : Nat) : Int) := by push_cast; rfl
    generalize hU : hi * 2 ^ s + lo / 2 ^ (64 - s) = U at *
    generalize hV : lo * 2 ^ s % 2 ^ 64 = V at *
    have hVl : V < 2 ^ 64 := by rw [← hV]; exact Nat.mod_lt _ (by decide)
    generalize hYY : y * 2 ^ s = Y at *
    have dY : Y = Y / 4294967296 * 4294967296 + Y % 4294967296 := by omega
    have dV : V = V / 4294967296 * 4294967296 + V % 4294967296 := by omega
    have hHl : ((hi : Int) * 2 ^ s) = ((hi * 2 ^ s : Nat) : Int) := by push_cast; rfl
    have hH2 : hi * 2 ^ s < 18446744073709551616 := k4
    refine div64_calls hi lo y s Y (Y / 4294967296) (Y % 4294967296) U V (V / 4294967296) (V % 4294967296) ((U * 4294967296 + V / 4294967296) / (Y / 4294967296 * 4294967296 + Y % 4294967296)) _ _ w hlz (by omega) (by omega) (by omega) (by omega) (by omega)
      (IntWalk.u64_in _ ⟨by omega, by omega⟩) (by omega) ?_ (by omega) (and_mask Y (by omega)) ?_ ?_ (by omega) (and_mask V (by omega)) dY (by omega) (by omega) (by omega) (by omega) k1 (by omega) (by omega) rfl rfl rfl ?_
    · rw [show (y : Int) * 2 ^ s = (Y : Int) by rw [← hYY]; push_cast; rfl]
      exact IntWalk.u64_in _ ⟨by omega, by omega⟩
    · rw [hHl, IntWalk.u64_in _ ⟨by omega, by omega⟩, e2t, ← Int.natCast_ediv]; exact hsum
    · rw [show (lo : Int) * 2 ^ s = ((lo * 2 ^ s : Nat) : Int) by push_cast; rfl, ← hV]
      generalize lo * 2 ^ s = z at *
      rw [IntKind.wrap_u64]; omega
    · rw [hyq, ← dY]
      have hv64 : U * 2 ^ 64 + V = (U * 4294967296 + V / 4294967296) * 4294967296 + V % 4294967296 := by omega
      rw [hv64]
      exact (DivMath.two Y 4294967296 U (V / 4294967296) (V % 4294967296) _ (by omega) rfl).1
/-- How many hundredths, rounded up; no more than there may be. -/
def perc (p w : Nat) : Nat := min ((p * 100 + (w - 1)) / w) 9223372036854775807
set_option maxHeartbeats 2000000 in
theorem percent_calls (p m : Nat) (h1 : 1 ≤ p) (h2 : 1 ≤ m) (h3 : p ≤ 9223372036854775807) (h4 : m ≤ 9223372036854775807) (w : World) :
    Calls Tryd.prog 12 #[.int .i64 (p : Int), .int .i64 (m : Int)] w fun e w' => e = .returned (.int .i64 (perc p m : Int)) ∧ Below w.heap.size w w' := by
  obtain ⟨H, hH⟩ : ∃ H, p * 100 / 18446744073709551616 = H := ⟨_, rfl⟩
  obtain ⟨L, hL⟩ : ∃ L, p * 100 % 18446744073709551616 = L := ⟨_, rfl⟩
  obtain ⟨C, hC⟩ : ∃ C, (L + (m - 1) + 0) / 18446744073709551616 = C := ⟨_, rfl⟩
  obtain ⟨L2, hL2⟩ : ∃ L2, (L + (m - 1) + 0) % 18446744073709551616 = L2 := ⟨_, rfl⟩
  have hLl : L < 18446744073709551616 := by omega
  have hCl : C ≤ 1 := by omega
  have hHl : H ≤ 50 := by omega
  have hn : p * 100 + (m - 1) = (H + C) * 18446744073709551616 + L2 := by omega
  have hL2l : L2 < 18446744073709551616 := by omega
  have hHC : H + C ≤ 100 := by omega
  have hM := fun w => Aside0.mk (Tryd.bits_Mul64 p 100 (by omega) (by omega) w)
  rw [hH, hL] at hM
  have hA := add64_run L (m - 1)
  rw [hC, hL2] at hA
  have e1 : IntKind.u64.wrap (p : Int) = p := IntWalk.u64_in _ ⟨by omega, by omega⟩
  have e2 : wrap64 ((m : Int) - 1) = ((m - 1 : Nat) : Int) := by unfold wrap64; omega
  have e2b : IntKind.u64.wrap ((m - 1 : Nat) : Int) = ((m - 1 : Nat) : Int) := IntWalk.u64_in _ ⟨by omega, by omega⟩
  have e3 : IntKind.u64.wrap (m : Int) = m := IntWalk.u64_in _ ⟨by omega, by omega⟩
  have e4 : IntKind.u64.wrap ((H : Int) + C) = ((H + C : Nat) : Int) := by rw [IntWalk.u64_in _ ⟨by omega, by omega⟩]; omega
  generalize hm1 : m - 1 = m1 at *
  generalize H + C = HC at *
  clear hH hL hC hL2
  have b1 : ¬ (p : Int) < 1 := by omega
  have b2 : ¬ (m : Int) < 1 := by omega
  by_cases hb : m ≤ HC
  · have hr : perc p m = 9223372036854775807 := by
      unfold perc
      rw [hm1]
      refine Nat.min_eq_right ?_
      refine (Nat.le_div_iff_mul_le (by omega)).2 ?_
      have h5 : 9223372036854775807 * m ≤ 9223372036854775807 * HC := Nat.mul_le_mul_left _ hb
      clear e1 e2 e2b e3 e4 hM hA
      omega
    have HR := Aside0.mk hr
    have b3 : (m : Int) ≤ (HC : Int) := by omega
    clear hr hn hL2l hHC hLl hCl hHl hb h1 h2 h3 h4 hm1
    go_enter Tryd.func12, Tryd.ntmps12
    go_wp2_with (go_at_call 25; refine (hM _).out.mono ?_; rintro e w' ⟨rfl, rfl⟩)

    go_ret
    exact ⟨by rw [HR.out]; rfl, Below.refl _ _⟩
  · have hD := fun w => Aside0.mk (div64_any HC L2 m (by omega) (by omega) hL2l w)
    have b3 : ¬ (m : Int) ≤ (HC : Int) := by omega
    have hq : (HC * 18446744073709551616 + L2) / m < 18446744073709551616 := by
      refine (Nat.div_lt_iff_lt_mul (by omega)).2 ?_
      have h5 : 18446744073709551616 * (HC + 1) ≤ 18446744073709551616 * m := Nat.mul_le_mul_left _ (by omega)
      clear e1 e2 e2b e3 e4 hM hA
      omega
    have hpc : perc p m = min ((HC * 18446744073709551616 + L2) / m) 9223372036854775807 := by unfold perc; rw [hm1, hn]
    have hD2 : ∀ w : World, Aside0 (Calls Tryd.prog 27 #[.int .u64 (HC : Int), .int .u64 (L2 : Int), .int .u64 (m : Int)] w fun e w' => ∃ r : Value, e = .returned (.tuple #[.int .u64 (((HC * 18446744073709551616 + L2) / m : Nat) : Int), r]) ∧ Below w.heap.size w w') := fun w => Aside0.mk (hD w).out
    generalize hQ : (HC * 18446744073709551616 + L2) / m = Q at *
    have e5 : (if (9223372036854775807 : Int) < (Q : Int) then 9223372036854775807 else (Q : Int)) = (perc p m : Int) := by rw [hpc]; split <;> omega
    have e6 : wrap64 (perc p m : Int) = (perc p m : Int) := by
      have : perc p m ≤ 9223372036854775807 := by rw [hpc]; exact Nat.min_le_right _ _
      unfold wrap64; omega
    generalize perc p m = R at *
    clear hpc hq hD hn hL2l hHC hLl hCl hHl hb h1 h2 h3 h4 hm1 hQ
    go_enter Tryd.func12, Tryd.ntmps12
    go_wp2_with (first | (go_at_call 25; refine (hM _).out.mono ?_; rintro e w' ⟨rfl, rfl⟩) | (go_at_call 27; refine (hD2 _).out.mono ?_; rintro e w' ⟨r, rfl, hb⟩))
    go_ret
    refine ⟨?_, hb⟩
    show Ending.returned (.int .i64 (wrap64 R)) = _
    rw [e6]
set_option maxHeartbeats 2000000 in
theorem percent_none (a b : Int) (h : a < 1 ∨ b < 1) (w : World) :
    Calls Tryd.prog 12 #[.int .i64 a, .int .i64 b] w fun e w' => e = .returned (.int .i64 0) ∧ Below w.heap.size w w' := by
  by_cases ha : a < 1
  · clear h
    go_enter Tryd.func12, Tryd.ntmps12
    go_wp2_with fail
    go_ret
    exact ⟨rfl, Below.refl _ _⟩
  · have hb : b < 1 := h.resolve_left ha
    clear h
    go_enter Tryd.func12, Tryd.ntmps12
    go_wp2_with fail
    go_ret
    exact ⟨rfl, Below.refl _ _⟩
def digits_Percent.f (a b : Int) : Option Int := if a < 1 ∨ b < 1 then some 0 else if a ≤ 9223372036854775807 ∧ b ≤ 9223372036854775807 then some (perc a.toNat b.toNat) else none
theorem digits_Percent.calls (a0 a1 : Int) (r : Int) (w : World) (h : digits_Percent.f a0 a1 = some r) :
    Calls Tryd.prog 12 #[.int .i64 a0, .int .i64 a1] w fun e w' => e = .returned (.int .i64 r) ∧ Below w.heap.size w w' := by
  unfold digits_Percent.f at h
  split at h
  · obtain rfl := Option.some.inj h; exact percent_none a0 a1 ‹_› w
  · split at h
    · rename_i h1 h2
      obtain rfl := Option.some.inj h
      obtain ⟨p, rfl⟩ : ∃ p : Nat, a0 = p := ⟨a0.toNat, by omega⟩
      obtain ⟨m, rfl⟩ : ∃ m : Nat, a1 = m := ⟨a1.toNat, by omega⟩
      exact percent_calls p m (by omega) (by omega) (by omega) (by omega) w
    · cases h
end Go.Proofs.YtekcgjpmlkngjaaDoor.Ext
