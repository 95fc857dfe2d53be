/- Two of the library's functions, by the shelf's contracts: strings.Compare, and strings.TrimLeft at a cutset of one nought. -/
import Derived.Test.YtnlbjefhbeocmaaDoorXShelf
import Derived.Test.YtnlbjefhbeocmaaDoorWMore
namespace Go.Proofs.YtnlbjefhbeocmaaDoor.Ext
open Go.RowKit Go.Proofs.YtnlbjefhbeocmaaDoorW.PrintWords Go.Proofs.YtnlbjefhbeocmaaDoorW.PrintLast Go.Proofs.YtnlbjefhbeocmaaDoorW.PrintMore
set_option linter.unusedVariables false

def strings_Compare.f (a b : ByteArray) : Option Int := some (Lib.compareBytes a.data.toList b.data.toList)
theorem strings_Compare.calls (a0 a1 : ByteArray) (r : Int) (w : World) (h : strings_Compare.f a0 a1 = some r) :
    Calls Tryd.prog 19 #[.string a0, .string a1] w fun e w' => e = .returned (.int .i64 r) ∧ Drawn0 w w' := by
  unfold strings_Compare.f at h
  obtain rfl := Option.some.inj h
  exact (Tryd.strings_Compare a0 a1 w).mono fun e w' ⟨he, hw⟩ => ⟨he, by subst hw; exact Drawn0.refl _⟩

def strings_TrimLeft.f (a b : ByteArray) : Option ByteArray := if b = ⟨#[48]⟩ then some ⟨(Lib.trimLeftB a.data.toList 48).toArray⟩ else none
theorem strings_TrimLeft.calls (a0 a1 : ByteArray) (r : ByteArray) (w : World) (h : strings_TrimLeft.f a0 a1 = some r) :
    Calls Tryd.prog 35 #[.string a0, .string a1] w fun e w' => e = .returned (.string r) ∧ Drawn0 w w' := by
  unfold strings_TrimLeft.f at h
  split at h
  · next hb =>
      subst hb
      obtain rfl := Option.some.inj h
      exact (Tryd.strings_TrimLeft_one a0 48 (by decide) w).mono fun e w' ⟨he, hw⟩ => ⟨he, by subst hw; exact Drawn0.refl _⟩
  · exact absurd h (by simp)
end Go.Proofs.YtnlbjefhbeocmaaDoor.Ext
