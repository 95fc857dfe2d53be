/- vfs.fits: what is wrong with what a kind has of its own. -/
import Derived.Test.YtcbjkfhflmlniaaDoorXVf6
namespace Go.Proofs.YtcbjkfhflmlniaaDoor.QVfs
open Go.RowKit Go.Proofs.YtcbjkfhflmlniaaDoorW.PrintWords Go.Proofs.YtcbjkfhflmlniaaDoorW.PrintLast Go.Proofs.YtcbjkfhflmlniaaDoorW.PrintMore
set_option linter.unusedVariables false
set_option linter.unusedSimpArgs false

def has0 (s : ByteArray) : Bool := decide (0 ≤ Lib.indexByte s.data.toList 0)
theorem contains_calls (s : ByteArray) (w : World) : Calls Tryd.prog 64 #[.string s, .string ⟨#[0]⟩] w fun e w' => e = .returned (.bool (has0 s)) ∧ w' = w := Tryd.strings_Contains_one s 0 w
def Fs.fitsE (F : Fs) (c : Chg) : Int :=
  if c.f0 = 1 then (if c.f7 < 0 then 1 else 0)
  else if c.f0 = 2 then (if F.has c.f2 = true then (if (F.it c.f2).f0.f2 = 2 then 1 else if (F.it c.f2).f0.f0 = (F.it c.f1).f0.f0 then 0 else 1) else 2)
  else if c.f0 = 3 then (if c.f4.toList = [] then 1 else if (4096 : Int) < c.f4.size then 1 else if has0 c.f4 = true then 1 else 0)
  else 0
set_option maxHeartbeats 4000000 in
set_option maxRecDepth 100000 in
theorem fits_calls (g : Nat) (F : Fs) (c : Chg) (w : World) (h : FsR g F w) (ha : 0 ≤ c.f1 ∧ c.f1 < F.I.length) :
    Calls Tryd.prog 47 #[.pointer (some ⟨g, 0, none⟩), .agg (encC c).toArray] w fun e w' => e = .returned (.int .i64 (F.fitsE c)) ∧ Below w.heap.size w w' := by
  obtain ⟨x0, x1, x2, x3, x4, x5, x6, x7⟩ := c
  simp only at ha
  show Calls _ _ _ _ fun e w' => e = .returned (.int .i64 (if x0 = 1 then (if x7 < 0 then 1 else 0)
  else if x0 = 2 then (if F.has x2 = true then (if (F.it x2).f0.f2 = 2 then 1 else if (F.it x2).f0.f0 = (F.it x1).f0.f0 then 0 else 1) else 2)
  else if x0 = 3 then (if x4.toList = [] then 1 else if (4096 : Int) < x4.size then 1 else if has0 x4 = true then 1 else 0)
  else 0)) ∧ Below w.heap.size w w'
  have hB : Below w.heap.size w (w.alloc (.cells #[.int .i64 x0, .int .i64 x1, .int .i64 x2, .string x3, .string x4, .int .i64 x5, .int .i64 x6, .int .i64 x7] TC)) := (Below.refl _ w).alloc (Nat.le_refl _) _
  unfold encC
  by_cases c1 : x0 = 1
  · rw [if_pos c1]
    subst c1
    by_cases c2 : x7 < 0
    · rw [if_pos c2]
      have b2 : decide (x7 < 0) = true := decide_eq_true c2
      clear h ha
      go_enter Tryd.func47, Tryd.ntmps47
      go_wp2
      go_ret
      exact ⟨rfl, hB⟩
    · rw [if_neg c2]
      have b2 : decide (x7 < 0) = false := decide_eq_false c2
      clear h ha
      go_enter Tryd.func47, Tryd.ntmps47
      go_wp2
      go_ret
      exact ⟨rfl, hB⟩
  rw [if_neg c1]
  have b1 : (x0 == 1) = false := beq_eq_false_iff_ne.2 c1
  clear c1
  by_cases c2 : x0 = 2
  · rw [if_pos c2]
    subst c2
    clear b1
    obtain ⟨W, hW⟩ : ∃ W : World, W = w.alloc (.cells #[.int .i64 2, .int .i64 x1, .int .i64 x2, .string x3, .string x4, .int .i64 x5, .int .i64 x6, .int .i64 x7] TC) := ⟨_, rfl⟩
    have b0 : W.heap[w.heap.size]? = some (.cells #[.int .i64 2, .int .i64 x1, .int .i64 x2, .string x3, .string x4, .int .i64 x5, .int .i64 x6, .int .i64 x7] TC (0, 0)) := by rw [hW]; exact heap_alloc_new w _
    have HB : Aside0 (Below w.heap.size w W) := ⟨by rw [hW]; exact hB⟩
    have HR := Aside0.mk (h.below HB.out)
    have k1 : W.cell? ⟨w.heap.size, 1, none⟩ = some (.int .i64 x1) := (blk_cell b0 1).trans rfl
    have k2 : W.cell? ⟨w.heap.size, 2, none⟩ = some (.int .i64 x2) := (blk_cell b0 2).trans rfl
    obtain ⟨A0, c0, A1, cc1, A2, cc2, hb, l0, l1, h1, h2, h3⟩ := HR.out
    have k0 : W.cell? ⟨g, 0, none⟩ = some (.slice A0 F.I.length c0) := (blk_cell hb 0).trans rfl
    obtain ⟨ad, A13, c13, hA0, qa0, _⟩ := at_T76 h1 x1 ha.1 ha.2
    subst hA0
    clear hb b0 h hB
    have cI := fun W' hh => is_calls g F x2 W' hh
    by_cases gg : 0 ≤ x2 ∧ x2 < F.I.length
    · have hh := Fs.has_yes gg.1 gg.2
      rw [hh, if_pos rfl]
      rw [hh] at cI
      obtain ⟨ad', A13', c13', hA0', qb0, _, qb2, _⟩ := at_T76 h1 x2 gg.1 gg.2
      obtain rfl : ad = ad' := by simpa using hA0'
      clear hA0' h1 h2 h3 hh
      obtain ⟨g0, g1⟩ := gg
      obtain ⟨a0, a1⟩ := ha
      show Calls _ _ _ _ fun e w' => e = .returned (.int .i64 (if (rd_T76 F.I x2).f0.f2 = 2 then 1 else if (rd_T76 F.I x2).f0.f0 = (rd_T76 F.I x1).f0.f0 then 0 else 1)) ∧ Below w.heap.size w w'
      generalize (rd_T76 F.I x2).f0.f2 = kd at *
      generalize (rd_T76 F.I x2).f0.f0 = d2 at *
      generalize (rd_T76 F.I x1).f0.f0 = d1 at *
      by_cases e1 : kd = 2
      · rw [if_pos e1]
        have b2 : (kd == 2) = true := beq_iff_eq.2 e1
        clear e1
        go_enter Tryd.func47, Tryd.ntmps47
        go_wp2_with fail
        rw [← hW]
        clear hW
        refine (cI W HR.out).mono ?_
        rintro e w1 ⟨rfl, rfl⟩
        go_wp2
        go_quiet (fail)
        go_wp2
        go_ret
        exact ⟨rfl, below_step HB.out (pw_below_drewN (Below.refl _ _) _)⟩
      · rw [if_neg e1]
        have b2 : (kd == 2) = false := beq_eq_false_iff_ne.2 e1
        clear e1
        by_cases e2 : d2 = d1
        · rw [if_pos e2]
          have b3 : (d2 != d1) = false := by rw [e2]; exact bne_self_eq_false d1
          clear e2
          go_enter Tryd.func47, Tryd.ntmps47
          go_wp2_with fail
          rw [← hW]
          clear hW
          refine (cI W HR.out).mono ?_
          rintro e w1 ⟨rfl, rfl⟩
          go_wp2
          go_quiet (fail)
          go_wp2
          go_ret
          exact ⟨rfl, below_step HB.out (pw_below_drewN (Below.refl _ _) _)⟩
        · rw [if_neg e2]
          have b3 : (d2 != d1) = true := by rw [bne_iff_ne]; exact e2
          clear e2
          go_enter Tryd.func47, Tryd.ntmps47
          go_wp2_with fail
          rw [← hW]
          clear hW
          refine (cI W HR.out).mono ?_
          rintro e w1 ⟨rfl, rfl⟩
          go_wp2
          go_quiet (fail)
          go_wp2
          go_ret
          exact ⟨rfl, below_step HB.out (pw_below_drewN (Below.refl _ _) _)⟩
    · have hh := Fs.has_no gg
      rw [hh, if_neg (by simp)]
      rw [hh] at cI
      clear h1 h2 h3 hh gg
      go_enter Tryd.func47, Tryd.ntmps47
      go_wp2_with fail
      rw [← hW]
      clear hW
      refine (cI W HR.out).mono ?_
      rintro e w1 ⟨rfl, rfl⟩
      go_wp2
      go_ret
      exact ⟨rfl, HB.out⟩
  rw [if_neg c2]
  have b2 : (x0 == 2) = false := beq_eq_false_iff_ne.2 c2
  clear c2 h ha
  by_cases c3 : x0 = 3
  · rw [if_pos c3]
    subst c3
    clear b1 b2
    by_cases c4 : x4.toList = []
    · rw [if_pos c4]
      have b4 : (x4.toList == []) = true := by rw [c4]; rfl
      go_enter Tryd.func47, Tryd.ntmps47
      go_wp2
      go_ret
      exact ⟨rfl, hB⟩
    · rw [if_neg c4]
      have b4 : (x4.toList == []) = false := beq_eq_false_iff_ne.2 c4
      have b5 : x4.toList.isEmpty = false := by cases hx : x4.toList <;> simp_all
      clear c4
      by_cases c5 : (4096 : Int) < x4.size
      · rw [if_pos c5]
        have b6 : decide ((4096 : Int) < (x4.size : Int)) = true := decide_eq_true c5
        go_enter Tryd.func47, Tryd.ntmps47
        go_wp2
        go_ret
        exact ⟨rfl, hB⟩
      · rw [if_neg c5]
        have b6 : decide ((4096 : Int) < (x4.size : Int)) = false := decide_eq_false c5
        have cC := fun W => contains_calls x4 W
        clear c5
        cases hc : has0 x4 with
        | true =>
          rw [hc] at cC
          rw [if_pos rfl]
          go_enter Tryd.func47, Tryd.ntmps47
          go_wp2_with (go_at_call 64; refine (cC _).mono ?_; rintro e w' ⟨rfl, rfl⟩)
          go_ret
          exact ⟨rfl, hB⟩
        | false =>
          rw [hc] at cC
          rw [if_neg (by simp)]
          go_enter Tryd.func47, Tryd.ntmps47
          go_wp2_with (go_at_call 64; refine (cC _).mono ?_; rintro e w' ⟨rfl, rfl⟩)
          go_ret
          exact ⟨rfl, hB⟩
  · rw [if_neg c3]
    have b3 : (x0 == 3) = false := beq_eq_false_iff_ne.2 c3
    clear c3
    go_enter Tryd.func47, Tryd.ntmps47
    go_wp2
    go_ret
    exact ⟨rfl, hB⟩
end Go.Proofs.YtcbjkfhflmlniaaDoor.QVfs
