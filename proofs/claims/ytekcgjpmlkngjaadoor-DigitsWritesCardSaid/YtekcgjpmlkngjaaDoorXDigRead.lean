/- digits.Read, as the print calls it: the number of decimal digits, if they are just its own. -/
import Derived.Test.YtekcgjpmlkngjaaDoorXDigE
import Derived.Test.YtekcgjpmlkngjaaDoorXShelfP
import Derived.Test.YtekcgjpmlkngjaaDoorVArr
import Derived.Shelf.Strconv.ParseIntPublic10
import Derived.Lib.ParseIntBTie
import Derived.Lib.ItoaNum
import Derived.WalkKit
import Derived.WalkSpells
import Derived.Deep.QuietTactic
import Derived.BigQuiet
namespace Go.Proofs.YtekcgjpmlkngjaaDoor.Ext
open Go.RowKit Go.Shelf Go.Proofs.YtekcgjpmlkngjaaDoorW.PrintWords Go.Proofs.YtekcgjpmlkngjaaDoorW.PrintLast Go.Proofs.YtekcgjpmlkngjaaDoorW.PrintMore
set_option linter.unusedVariables false
set_option linter.unusedSimpArgs false

theorem toList_inj (s t : ByteArray) (h : s.toList = t.toList) : s = t := by
  rw [ByteArray.toList_eq, ByteArray.toList_eq] at h
  exact ByteArray.ext (Array.toList_inj.1 h)
/-- What ParseInt gives: a number, or none. -/
def parsed (s : ByteArray) : Option Int := match Lib.parseIntB 64 s.data.toList with
  | .ok v => some v
  | _ => none
def itoaB (n : Int) : ByteArray := ⟨(Lib.itoa n).toArray⟩
def readF (s : ByteArray) : Int × Bool := match parsed s with
  | some v => if itoaB v = s then (v, true) else (0, false)
  | none => (0, false)
theorem parsed_in {s : ByteArray} {v : Int} (h : parsed s = some v) : -9223372036854775808 ≤ v ∧ v ≤ 9223372036854775807 ∧ Lib.parseIntB 64 s.data.toList = .ok v := by
  unfold parsed at h
  split at h
  · rename_i u hu
    obtain rfl := Option.some.inj h
    have := Lib.parseIntB_bounds hu
    have e : (2 : Nat) ^ (64 - 1) = 9223372036854775808 := by decide
    rw [e] at this
    exact ⟨by omega, by omega, hu⟩
  · cases h
theorem parse_yes (s : ByteArray) (hs : s.size ≤ 1000000) (v : Int) (h : parsed s = some v) (w : World) :
    Calls Tryd.prog 30 #[.string s, .int .i64 10, .int .i64 64] w fun e w' => e = .returned (.tuple #[.int .i64 v, .nilIface]) ∧ Below w.heap.size w w' := by
  refine (Any.strconv_ParseInt_10_at64_ok Tryd.laysC174 s (by omega) v (parsed_in h).2.2 w).mono ?_
  rintro e w' ⟨he, h⟩
  refine ⟨he, ?_⟩
  rcases h with rfl | ⟨t, rfl⟩
  · exact Below.refl _ _
  · exact Lib.bytesWorld_below _ _ _
theorem parse_no (s : ByteArray) (hs : s.size ≤ 1000000) (h : parsed s = none) (w : World) (HE : Env w) :
    Calls Tryd.prog 30 #[.string s, .int .i64 10, .int .i64 64] w fun e w' => ∃ (v : Int) (N : Nat), e = .returned (.tuple #[.int .i64 v, .iface 72 (.pointer (some ⟨N, 0, none⟩))]) ∧ Below w.heap.size w w' := by
  obtain ⟨_, ⟨t1, p1, h1⟩, ⟨t2, p2, h2⟩, _⟩ := HE
  unfold parsed at h
  cases hp : Lib.parseIntB 64 s.data.toList with
  | ok v => rw [hp] at h; cases h
  | range =>
    refine (Any.strconv_ParseInt_10_at64_range Tryd.laysC174 s (by omega) hp _ w h2 (.inr ⟨_, _, rfl⟩)).mono ?_
    rintro e w' ⟨N, he, _, _, hb⟩
    exact ⟨_, N, he, hb⟩
  | _ =>
    refine (Any.strconv_ParseInt_10_at64_syntax Tryd.laysC174 s (by omega) hp _ w h1 (.inr ⟨_, _, rfl⟩)).mono ?_
    rintro e w' ⟨N, he, _, _, hb⟩
    exact ⟨_, N, he, hb⟩
theorem dec_calls (v : Int) (h1 : -9223372036854775808 ≤ v) (h2 : v ≤ 9223372036854775807) (w : World) (HE : Env w) :
    Calls Tryd.prog 20 #[.int .i64 v] w fun e w' => e = .returned (.string (itoaB v)) ∧ Below w.heap.size w w' := by
  have HC := Aside0.mk (strconv_FormatInt.calls v 10 (itoaB v) w (by unfold strconv_FormatInt.f Base.strconv_FormatInt.f; rw [if_pos ⟨h1, h2, rfl⟩]; rfl) HE)
  clear HE h1 h2
  go_enter Tryd.func20, Tryd.ntmps20
  go_wp2_with (go_at_call 31; refine HC.out.mono ?_; rintro e w' ⟨rfl, hb⟩)
  go_ret
  exact ⟨rfl, hb⟩
def ReadPost (s : ByteArray) (w : World) (e : Ending) (w' : World) : Prop := e = .returned (.tuple #[.int .i64 (readF s).1, .bool (readF s).2]) ∧ Below w.heap.size w w'
set_option maxHeartbeats 2000000 in
theorem Read_calls (s : ByteArray) (hs : s.size ≤ 1000000) (w : World) (HE : Env w) : Calls Tryd.prog 18 #[.string s] w (ReadPost s w) := by
  cases hp : parsed s with
  | none =>
    have HC := Aside0.mk (parse_no s hs hp w HE)
    have hr : readF s = (0, false) := by unfold readF; rw [hp]
    have HR := Aside0.mk hr
    clear hp HE hs hr
    go_enter Tryd.func18, Tryd.ntmps18
    go_wp2_with (go_at_call 30; refine HC.out.mono ?_; rintro e w' ⟨v, N, rfl, hb⟩)
    go_ret2
    exact ⟨by rw [HR.out]; rfl, hb⟩
  | some v =>
    obtain ⟨b1, b2, _⟩ := parsed_in hp
    have HC := Aside0.mk (parse_yes s hs v hp w)
    have HD : Aside0 (∀ w, Env w → Calls Tryd.prog 20 #[.int .i64 v] w fun e w' => e = .returned (.string (itoaB v)) ∧ Below w.heap.size w w') := Aside0.mk fun w HE => dec_calls v b1 b2 w HE
    have HEE := Aside0.mk HE
    by_cases he : itoaB v = s
    · have hr : readF s = (v, true) := by unfold readF; rw [hp]; simp only; rw [if_pos he]
      have HR := Aside0.mk hr
      rw [he] at HD
      clear hp HE hs hr b1 b2 he
      go_enter Tryd.func18, Tryd.ntmps18
      go_wp2_with (first | (go_at_call 30; refine HC.out.mono ?_; rintro e w1 ⟨rfl, hb1⟩) | (go_at_call 20; refine (HD.out _ (HEE.out.below hb1)).mono ?_; rintro e w' ⟨rfl, hb⟩))
      go_ret2
      exact ⟨by rw [HR.out]; rfl, hb1.trans (hb.mono hb1.size)⟩
    · have hr : readF s = (0, false) := by unfold readF; rw [hp]; simp only; rw [if_neg he]
      have HR := Aside0.mk hr
      have hne : ((itoaB v).toList == s.toList) = false := by
        rw [beq_eq_false_iff_ne]
        intro h
        exact he (toList_inj _ _ h)
      generalize itoaB v = t at *
      clear hp HE hs hr b1 b2 he
      go_enter Tryd.func18, Tryd.ntmps18
      go_wp2_with (first | (go_at_call 30; refine HC.out.mono ?_; rintro e w1 ⟨rfl, hb1⟩) | (go_at_call 20; refine (HD.out _ (HEE.out.below hb1)).mono ?_; rintro e w' ⟨rfl, hb⟩))
      go_ret2
      exact ⟨by rw [HR.out]; rfl, hb1.trans (hb.mono hb1.size)⟩
def digits_Read.f (s : ByteArray) : Option (Int × Bool) := if s.size ≤ 1000000 then some (readF s) else none
theorem digits_Read.calls (a0 : ByteArray) (r1 : Int) (r2 : Bool) (w : World) (h : digits_Read.f a0 = some (r1, r2)) (HE : Env w) :
    Calls Tryd.prog 18 #[.string a0] w fun e w' => e = .returned (.tuple #[.int .i64 r1, .bool r2]) ∧ Below w.heap.size w w' := by
  unfold digits_Read.f at h
  split at h
  · have h := Option.some.inj h
    refine (Read_calls a0 ‹_› w HE).mono ?_
    rintro e w' ⟨rfl, hb⟩
    rw [h]
    exact ⟨rfl, hb⟩
  · cases h
end Go.Proofs.YtekcgjpmlkngjaaDoor.Ext
