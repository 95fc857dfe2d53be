/- P5.1: of all styles, and times, what is written is the chapter's (100 bytes). -/
import Derived.Test.YtbbnjpnpgcjelaaDoorPureStm3
import Derived.Test.YtbbnjpnpgcjelaaDoorQStyles
namespace Go.Proofs.YtbbnjpnpgcjelaaDoor.Pure
open Go.RowKit Go.Lib Go.Proofs.YtbbnjpnpgcjelaaDoor.QStm Go.Proofs.YtbbnjpnpgcjelaaDoor.DateMath Go.Proofs.YtbbnjpnpgcjelaaDoorW.PrintWords Go.Proofs.YtbbnjpnpgcjelaaDoorW.PrintLast Go.Proofs.YtbbnjpnpgcjelaaDoorW.PrintMore
set_option linter.unusedVariables false
set_option linter.unusedSimpArgs false
theorem u64w (x : Int) : IntKind.u64.wrap x = x % 18446744073709551616 := by unfold IntKind.wrap; simp [IntKind.signed, IntKind.bits]
/-- Is a time of the last half year? -/
def rec (t now : Int) : Bool := decide (t ≤ now ∧ now - t < 15778476)
theorem recent_p (t now : Int) (t0 : -9223372036854775808 ≤ t) (t1 : t ≤ 9223372036854775807) (n0 : -9223372036854775808 ≤ now) (n1 : now ≤ 9223372036854775807) : stamp_Recent.f t now = some (rec t now) := by
  unfold stamp_Recent.f rec
  simp only [u64w]
  by_cases h : t ≤ now
  · rw [if_pos h]
    congr 1
    rw [decide_eq_decide]
    omega
  · rw [if_neg h, decide_eq_false (fun e => h e.1)]
theorem recent_r (t now : Int) (t0 : -9223372036854775808 ≤ t) (t1 : t ≤ 9223372036854775807) (n0 : -9223372036854775808 ≤ now) (n1 : now ≤ 9223372036854775807) : domesdayref05_Recent.f t now = some (rec t now) := by
  unfold domesdayref05_Recent.f rec
  unfold wrap64
  by_cases h : t > now
  · rw [if_pos h, decide_eq_false (by omega)]
  rw [if_neg h]
  by_cases a : t < 0
  · rw [if_pos a]
    by_cases b : now ≥ 0
    · rw [if_pos b]
      by_cases c : t > -15778476
      · rw [if_pos c]
        by_cases d : now < 15778476
        · rw [if_pos d]; congr 1; rw [decide_eq_decide]; omega
        · rw [if_neg d, decide_eq_false (by omega)]
      · rw [if_neg c, decide_eq_false (by omega)]
    · rw [if_neg b]; congr 1; rw [decide_eq_decide]; omega
  · rw [if_neg a]; congr 1; rw [decide_eq_decide]; omega
theorem style_both (a0 : Int) (a1 : ByteArray) (a2 a3 a4 : Int) (hs : a1.size ≤ 100) (t0 : -9223372036854775808 ≤ a2) (t1 : a2 ≤ 9223372036854775807) (n0 : -9223372036854775808 ≤ a3) (n1 : a3 ≤ 9223372036854775807) :
    ∃ r, Ev (fun k => stamp_Style.f k a0 a1 a2 a3 a4) r ∧ Ev (fun k => domesdayref05_Style.f k a0 a1 a2 a3 a4) r := by
  obtain ⟨X, hX, Y, M, D, h, mi, s, x1, x2, x3, x4, x5, x6, x7, x8⟩ := formats a2 a4 t0 t1
  unfold stamp_Style.f domesdayref05_Style.f
  by_cases c0 : a0 < 0
  · refine ⟨⟨#[]⟩, ?_, ?_⟩
    · simp only [if_neg (show ¬ a0 = 0 by omega), if_neg (show ¬ a0 = 1 by omega), if_neg (show ¬ a0 = 2 by omega), if_neg (show ¬ a0 = 3 by omega)]; exact Ev.now _
    · simp only [if_pos c0]
      exact Ev.step (f := fun _ => some _) (fun k => by rw [domesdayref05_Style.j0, if_pos rfl]) (Ev.now _)
  simp only [if_neg c0]
  by_cases c3 : a0 > 3
  · refine ⟨⟨#[]⟩, ?_, ?_⟩
    · simp only [if_neg (show ¬ a0 = 0 by omega), if_neg (show ¬ a0 = 1 by omega), if_neg (show ¬ a0 = 2 by omega), if_neg (show ¬ a0 = 3 by omega)]; exact Ev.now _
    · simp only [decide_eq_true c3]
      exact Ev.step (f := fun _ => some _) (fun k => by rw [domesdayref05_Style.j0, if_pos rfl]) (Ev.now _)
  simp only [decide_eq_false c3]
  have jstep : ∀ {r}, Ev (fun k => (if a0 = 0 then ((domesdayref05_Recent.f a2 a3).bind fun t155 => (if t155 = true then ((domesdayref05_Format.f k (⟨#[37, 98, 32, 37, 101, 32, 37, 72, 58, 37, 77]⟩ : ByteArray) a2 a4).bind fun t156 => (some t156)) else ((domesdayref05_Format.f k (rdOf ByteArray.empty [(⟨#[37, 98, 32, 37, 101, 32, 32, 37, 89]⟩ : ByteArray), (⟨#[37, 70, 32, 37, 72, 58, 37, 77]⟩ : ByteArray), (⟨#[37, 70, 32, 37, 84, 32, 37, 122]⟩ : ByteArray), a1] a0) a2 a4).bind fun t157 => (some t157)))) else ((domesdayref05_Format.f k (rdOf ByteArray.empty [(⟨#[37, 98, 32, 37, 101, 32, 32, 37, 89]⟩ : ByteArray), (⟨#[37, 70, 32, 37, 72, 58, 37, 77]⟩ : ByteArray), (⟨#[37, 70, 32, 37, 84, 32, 37, 122]⟩ : ByteArray), a1] a0) a2 a4).bind fun t158 => (some t158)))) r → Ev (fun k => domesdayref05_Style.j0 k a0 a1 a2 a3 a4 false) r := by
    intro r hr
    exact Ev.step (fun k => by rw [domesdayref05_Style.j0, if_neg (by decide), if_pos (by omega), if_pos (by omega)]) hr
  have pf : ∀ f : ByteArray, f.size ≤ 100 → Ev (fun k => (stamp_Format.f k f a2 a4).bind fun t => some t) (B (fm X (L f))) := fun f hf => Ev.bind (f := fun _ t => some t) (hX f (by omega)).1 (Ev.now _)
  have rf : ∀ f : ByteArray, f.size ≤ 100 → Ev (fun k => (domesdayref05_Format.f k f a2 a4).bind fun t => some t) (B (fm X (L f))) := fun f hf => Ev.bind (f := fun _ t => some t) (hX f (by omega)).2 (Ev.now _)
  have cases : a0 = 0 ∨ a0 = 1 ∨ a0 = 2 ∨ a0 = 3 := by omega
  rcases cases with rfl | rfl | rfl | rfl
  · simp only [if_true, recent_p a2 a3 t0 t1 n0 n1, recent_r a2 a3 t0 t1 n0 n1, Option.bind_some] at jstep ⊢
    cases hr : rec a2 a3 with
    | true =>
      simp only [hr, if_true] at jstep ⊢
      exact ⟨_, pf _ (by decide), jstep (rf _ (by decide))⟩
    | false =>
      simp only [hr, Bool.false_eq_true, if_false] at jstep ⊢
      exact ⟨_, pf _ (by decide), jstep (rf (⟨#[37, 98, 32, 37, 101, 32, 32, 37, 89]⟩ : ByteArray) (by decide))⟩
  · simp only [Int.reduceEq, if_true, if_false] at jstep ⊢
    refine ⟨_, pf _ (by decide), jstep ?_⟩
    have := rf (⟨#[37, 70, 32, 37, 72, 58, 37, 77]⟩ : ByteArray) (by decide)
    have e : fm X (L (⟨#[37, 70, 32, 37, 72, 58, 37, 77]⟩ : ByteArray)) = fm X (L (⟨#[37, 89, 45, 37, 109, 45, 37, 100, 32, 37, 72, 58, 37, 77]⟩ : ByteArray)) := by
      have p (c : UInt8) (r : List UInt8) : fm X (37 :: c :: r) = if (X (c.toNat : Int)).2 = true then L (X (c.toNat : Int)).1 ++ fm X r else 37 :: fm X (c :: r) := rfl
      have n0 : fm X [] = [] := rfl
      have n1 (c : UInt8) : fm X [c] = [c] := rfl
      have q32 (d : UInt8) (r : List UInt8) : fm X (32 :: d :: r) = 32 :: fm X (d :: r) := rfl
      have q45 (d : UInt8) (r : List UInt8) : fm X (45 :: d :: r) = 45 :: fm X (d :: r) := rfl
      have q58 (d : UInt8) (r : List UInt8) : fm X (58 :: d :: r) = 58 :: fm X (d :: r) := rfl
      show fm X [37, 70, 32, 37, 72, 58, 37, 77] = fm X [37, 89, 45, 37, 109, 45, 37, 100, 32, 37, 72, 58, 37, 77]
      simp only [p, q32, q45, q58, UInt8.reduceToNat, Int.cast_ofNat_Int, n0, n1, x1, x2, x3, x4, x5, x6, x7, x8, if_true, L_app, show L (⟨#[58]⟩ : ByteArray) = [58] from rfl, show L (⟨#[45]⟩ : ByteArray) = [45] from rfl, List.append_assoc, List.append_nil, List.cons_append, List.nil_append]
    rw [e] at this
    exact this
  · simp only [Int.reduceEq, if_true, if_false] at jstep ⊢
    refine ⟨_, pf _ (by decide), jstep ?_⟩
    have := rf (⟨#[37, 70, 32, 37, 84, 32, 37, 122]⟩ : ByteArray) (by decide)
    have e : fm X (L (⟨#[37, 70, 32, 37, 84, 32, 37, 122]⟩ : ByteArray)) = fm X (L (⟨#[37, 89, 45, 37, 109, 45, 37, 100, 32, 37, 72, 58, 37, 77, 58, 37, 83, 32, 37, 122]⟩ : ByteArray)) := by
      have p (c : UInt8) (r : List UInt8) : fm X (37 :: c :: r) = if (X (c.toNat : Int)).2 = true then L (X (c.toNat : Int)).1 ++ fm X r else 37 :: fm X (c :: r) := rfl
      have n0 : fm X [] = [] := rfl
      have n1 (c : UInt8) : fm X [c] = [c] := rfl
      have q32 (d : UInt8) (r : List UInt8) : fm X (32 :: d :: r) = 32 :: fm X (d :: r) := rfl
      have q45 (d : UInt8) (r : List UInt8) : fm X (45 :: d :: r) = 45 :: fm X (d :: r) := rfl
      have q58 (d : UInt8) (r : List UInt8) : fm X (58 :: d :: r) = 58 :: fm X (d :: r) := rfl
      show fm X [37, 70, 32, 37, 84, 32, 37, 122] = fm X [37, 89, 45, 37, 109, 45, 37, 100, 32, 37, 72, 58, 37, 77, 58, 37, 83, 32, 37, 122]
      simp only [p, q32, q45, q58, UInt8.reduceToNat, Int.cast_ofNat_Int, n0, n1, x1, x2, x3, x4, x5, x6, x7, x8, if_true, L_app, show L (⟨#[58]⟩ : ByteArray) = [58] from rfl, show L (⟨#[45]⟩ : ByteArray) = [45] from rfl, List.append_assoc, List.append_nil, List.cons_append, List.nil_append]
    rw [e] at this
    exact this
  · simp only [Int.reduceEq, if_true, if_false] at jstep ⊢
    exact ⟨_, pf a1 hs, jstep (rf a1 hs)⟩
theorem StampStyles (a0 : Int) (a1 : ByteArray) (a2 a3 a4 : Int) (w0 : (Lit.int .i64 a0).wf = true) (w1 : a1.size ≤ maxLen) (w2 : (Lit.int .i64 a2).wf = true) (w3 : (Lit.int .i64 a3).wf = true) (w4 : (Lit.int .i64 a4).wf = true) : ∃ k, domesdaylaw05_StampStyles.f k a0 a1 a2 a3 a4 = some true := by
  have b2 := Go.bounds_i64 w2
  have b3 := Go.bounds_i64 w3
  refine Ev.rounds ?_
  unfold domesdaylaw05_StampStyles.f
  refine Ev.bind awake_ev ?_
  simp only [if_true]
  by_cases h : (a1.size : Int) > 100
  · rw [decide_eq_true h]
    exact Ev.step (f := fun k => (domesdaylaw05_awake.f k).bind fun t => some t) (fun k => by rw [domesdaylaw05_StampStyles.j0, if_pos rfl]) (Ev.bind (f := fun _ t => some t) awake_ev (Ev.now true))
  · rw [decide_eq_false h]
    obtain ⟨r, e1, e2⟩ := style_both a0 a1 a2 a3 a4 (by omega) b2.1 b2.2 b3.1 b3.2
    refine Ev.step (f := fun k => (stamp_Style.f k a0 a1 a2 a3 a4).bind fun t164 => ((domesdayref05_Style.f k a0 a1 a2 a3 a4).bind fun t165 => (some (t164.toList == t165.toList)))) (fun k => by rw [domesdaylaw05_StampStyles.j0, if_neg (by decide), recent_p a2 a3 b2.1 b2.2 b3.1 b3.2, recent_r a2 a3 b2.1 b2.2 b3.1 b3.2, Option.bind_some, Option.bind_some, beq_self_eq_true, if_pos rfl]) ?_
    refine Ev.bind (f := fun k t164 => ((domesdayref05_Style.f k a0 a1 a2 a3 a4).bind fun t165 => (some (t164.toList == t165.toList)))) e1 ?_
    refine Ev.bind (f := fun k t165 => (some (r.toList == t165.toList))) e2 ?_
    rw [beq_self_eq_true]
    exact Ev.now true
end Go.Proofs.YtbbnjpnpgcjelaaDoor.Pure
