/- stamp's plain laws: a time has one date by the program and by the document; awake. -/
import Derived.Test.YtbbnjpnpgcjelaaDoorPureStm2
namespace Go.Proofs.YtbbnjpnpgcjelaaDoor.Pure
open Go.RowKit Go.Lib Go.Proofs.YtbbnjpnpgcjelaaDoor.QStm Go.Proofs.YtbbnjpnpgcjelaaDoor.DateMath Go.Proofs.YtbbnjpnpgcjelaaDoor.DateEv Go.Proofs.YtbbnjpnpgcjelaaDoorW.PrintWords Go.Proofs.YtbbnjpnpgcjelaaDoorW.PrintLast Go.Proofs.YtbbnjpnpgcjelaaDoorW.PrintMore
set_option linter.unusedVariables false
set_option linter.unusedSimpArgs false

theorem both (t o : Int) (g0 : -9223372036854775808 ≤ t) (g1 : t ≤ 9223372036854775807) :
    ∃ Y M D h mi s wd yd : Int, Date t o Y M D h mi s wd yd ∧ Nums t o Y M D h mi s wd yd ∧ Ev (fun k => date_Of.f k t o) (Y, M, D, h, mi, s, wd, yd) ∧ Ev (fun k => domesdayref04_Of.f k t o) (Y, M, D, h, mi, s, wd, yd) := by
  obtain ⟨Y, M, D, h, mi, s, wd, yd, hd, hev⟩ := of_ev t o g0 g1
  obtain ⟨Y', M', D', h', mi', s', wd', yd', hd', hev'⟩ := refOf_ev t o g0 g1
  obtain ⟨rfl, rfl, rfl, rfl, rfl, rfl, rfl, rfl⟩ := Is.one hd hd'
  exact ⟨Y, M, D, h, mi, s, wd, yd, hd, nums_of g0 g1 hd, hev, hev'⟩
/-- A format's text, of a time. -/
theorem formats (t o : Int) (g0 : -9223372036854775808 ≤ t) (g1 : t ≤ 9223372036854775807) :
    ∃ X : Int → ByteArray × Bool, (∀ f : ByteArray, f.size ≤ 100000 → Ev (fun k => stamp_Format.f k f t o) (B (fm X (L f))) ∧ Ev (fun k => domesdayref05_Format.f k f t o) (B (fm X (L f)))) ∧ (∃ a b c d e f : ByteArray, X 89 = (a, true) ∧ X 109 = (b, true) ∧ X 100 = (c, true) ∧ X 72 = (d, true) ∧ X 77 = (e, true) ∧ X 83 = (f, true) ∧ X 70 = ((((a ++ (⟨#[45]⟩ : ByteArray)) ++ b) ++ (⟨#[45]⟩ : ByteArray)) ++ c, true) ∧ X 84 = ((((d ++ (⟨#[58]⟩ : ByteArray)) ++ e) ++ (⟨#[58]⟩ : ByteArray)) ++ f, true)) := by
  obtain ⟨Y, M, D, h, mi, s, wd, yd, hd, n, h1, h2⟩ := both t o g0 g1
  exact ⟨dv t o Y M D h mi s wd yd, fun f hf => ⟨format_ev n h1 f hf, refFormat_ev n h2 f hf⟩, dec Y, two M, two D, two h, two mi, two s, rfl, rfl, rfl, rfl, rfl, rfl, rfl, rfl⟩
theorem awake_ev : Ev (fun k => domesdaylaw05_awake.f k) true := by
  obtain ⟨Y, M, D, h, mi, s, wd, yd, hd, n, h1, h2⟩ := both 0 0 (by omega) (by omega)
  have hd0 : Date 0 0 1970 1 1 0 0 0 4 1 := ⟨⟨4, 370, by decide, by decide, by decide, by decide, by decide, by decide⟩, by decide, by decide, by decide, by decide, by decide, by decide⟩
  obtain ⟨rfl, rfl, rfl, rfl, rfl, rfl, rfl, rfl⟩ := Is.one hd hd0
  have hf := format_ev n h1 (⟨#[37, 70]⟩ : ByteArray) (by decide)
  have hY : dec 1970 = ⟨#[49, 57, 55, 48]⟩ := by
    unfold dec
    rw [show (1970 : Int) = ((1970 : Nat) : Int) from rfl, itoa_nonneg, decDigits, dif_neg (by decide), show 1970 / 10 = 197 from rfl, dd_eq 197 (by decide)]
    decide +kernel
  have he : B (fm (dv 0 0 1970 1 1 0 0 0 4 1) (L (⟨#[37, 70]⟩ : ByteArray))) = ⟨#[49, 57, 55, 48, 45, 48, 49, 45, 48, 49]⟩ := by
    rw [show fm (dv 0 0 1970 1 1 0 0 0 4 1) (L (⟨#[37, 70]⟩ : ByteArray)) = L (dashed 1970 1 1) ++ [] from rfl, List.append_nil, B_L]
    unfold dashed
    rw [hY]
    decide +kernel
  rw [he] at hf
  unfold domesdaylaw05_awake.f
  refine Ev.bind (f := fun _ t101 => (if t101.toList = ([49, 57, 55, 48, 45, 48, 49, 45, 48, 49] : List UInt8) then ((stamp_Recent.f 0 5).bind fun t102 => (some t102)) else (some false))) hf ?_
  exact Ev.congr (f := fun _ => some true) (fun k => by decide +kernel) (Ev.now _)
end Go.Proofs.YtbbnjpnpgcjelaaDoor.Pure
