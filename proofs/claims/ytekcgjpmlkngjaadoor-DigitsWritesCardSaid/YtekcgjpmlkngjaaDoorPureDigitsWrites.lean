/- P1.1: what is written are the document's digits, and the number is read from them. -/
import Derived.Test.YtekcgjpmlkngjaaDoorPureDigW
set_option linter.unusedVariables false
set_option linter.unusedSimpArgs false
namespace Go.Proofs.YtekcgjpmlkngjaaDoor.Pure
open Go.RowKit Go.Proofs.YtekcgjpmlkngjaaDoor.QDigitsWrites Go.Proofs.YtekcgjpmlkngjaaDoor.Ext Go.Proofs.YtekcgjpmlkngjaaDoorW.PrintWords Go.Proofs.YtekcgjpmlkngjaaDoorW.PrintLast
theorem itoa_size (v : Int) (hv : I64 v) : (itoaB v).size ≤ 1000000 := by
  have e : (itoaB v).size = (Lib.itoa v).length := by unfold itoaB; exact List.size_toArray
  rw [e]
  have e20 : (10 : Nat) ^ 20 = 100000000000000000000 := by decide
  unfold Lib.itoa
  split
  · have := dec_len 20 v.natAbs
    rw [DigB.digs_dec 20 _ (by omega) (by omega)] at this
    simp; omega
  · have := dec_len 20 v.toNat
    rw [DigB.digs_dec 20 _ (by omega) (by omega)] at this
    omega
theorem read_back (v : Int) (hv : I64 v) : readF (itoaB v) = (v, true) := by
  have hp : parsed (itoaB v) = some v := by
    unfold parsed
    rw [show (itoaB v).data.toList = Lib.itoa v from rfl, DigB.parse_itoa v hv.1 hv.2]
  unfold readF
  rw [hp]
  simp
theorem DigitsWrites (a0 a1 : Int) (h0 : (Lit.int .i64 a0).wf = true) (h1 : (Lit.int .u64 a1).wf = true) : ∃ k, domesdaylaw01_DigitsWrites.f k a0 a1 = some true := by
  refine ⟨400, ?_⟩
  obtain ⟨k, hk⟩ : ∃ k, k = 400 := ⟨_, rfl⟩
  rw [← hk]
  have g0 := i64_wf h0
  have g1 : 0 ≤ a1 ∧ a1 ≤ 18446744073709551615 := by simpa [Lit.wf, IntKind.min, IntKind.max, IntKind.signed, IntKind.bits] using h1
  obtain ⟨m, rfl⟩ : ∃ m : Nat, a1 = m := ⟨a1.toNat, by omega⟩
  have hd : digits_Dec.f a0 = some (itoaB a0) := by
    unfold digits_Dec.f strconv_FormatInt.f Base.strconv_FormatInt.f
    rw [if_pos ⟨g0.1, g0.2, rfl⟩]; rfl
  have ho : digits_Oct.f (m : Int) = some (B (DigB.digs 8 22 m)) := by
    unfold digits_Oct.f; rw [if_pos g1, Int.toNat_natCast]; rfl
  have hh : digits_Hex.f (m : Int) = some (B (DigB.digs 16 16 m)) := by
    unfold digits_Hex.f; rw [if_pos g1, Int.toNat_natCast]; rfl
  have e8 : (8 : Nat) ^ 22 = 73786976294838206464 := by decide
  have e16 : (16 : Nat) ^ 16 = 18446744073709551616 := by decide
  have r8 : domesdayref01_Digits.f k (m : Int) 8 = _ := digits_f 8 22 k m (by omega) (by omega) (by omega) (by omega) (by omega) (by omega) (by omega)
  have r16 : domesdayref01_Digits.f k (m : Int) 16 = _ := digits_f 16 16 k m (by omega) (by omega) (by omega) (by omega) (by omega) (by omega) (by omega)
  unfold domesdaylaw01_DigitsWrites.f digits_Read.f
  rw [hd]
  simp only [Option.bind_some]
  rw [if_pos (itoa_size a0 g0), read_back a0 g0, awake_ev, dec_f k (by omega) a0 g0, ho, hh, r8, r16]
  simp
end Go.Proofs.YtekcgjpmlkngjaaDoor.Pure
