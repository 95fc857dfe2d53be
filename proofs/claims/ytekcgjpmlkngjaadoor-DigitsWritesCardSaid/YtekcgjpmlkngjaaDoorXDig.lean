/- strconv.FormatInt (base 10), as the print calls it; what the library's functions ask of the world. -/
import Derived.Test.YtekcgjpmlkngjaaDoorWMore
import Derived.Test.YtekcgjpmlkngjaaDoorXShelf
import Derived.Test.YtekcgjpmlkngjaaDoorRows
import Derived.LaidSub
import Derived.LaidLaws
import Derived.Lib.LaidTab
import Derived.Lib.LaidU8
import Derived.Lib.AppendIntMem
namespace Go.Proofs.YtekcgjpmlkngjaaDoor.Base
open Go.RowKit Go.Shelf Go.Lib Go.Proofs.YtekcgjpmlkngjaaDoorW.PrintWords Go.Proofs.YtekcgjpmlkngjaaDoorW.PrintLast Go.Proofs.YtekcgjpmlkngjaaDoorW.PrintMore
set_option linter.unusedVariables false
set_option linter.unusedSimpArgs false

/-- A variable of package strconv holds an error. -/
def HasErr (w : World) (g : Nat) : Prop := ∃ te pe, w.cell? ⟨g, 0, none⟩ = some (.iface te pe)
theorem HasErr.below {w w' : World} {g : Nat} (h : HasErr w g) (hb : Below w.heap.size w w') : HasErr w' g := by
  obtain ⟨te, pe, h⟩ := h
  exact ⟨te, pe, (hb.cell (p := ⟨g, 0, none⟩) (Lib.lt_of_cell h)).trans h⟩
/-- strconv's table of the powers of ten stands. -/
def TabOk (w : World) : Prop := Lib.TabIs Tryd.prog w "internal/strconv.uint64pow10" .u64 Lib.pow10Tab
theorem pow10_named : Tryd.prog.globalNamed "internal/strconv.uint64pow10" = some ((Tryd.prog.globalNamed "internal/strconv.uint64pow10").getD 0) := by kernel_rfl
theorem TabIs_below {P : Program} {n : String} {g : Nat} {k : IntKind} {zs : List Int} {w w' : World} (hg : P.globalNamed n = some g) (h : Lib.TabIs P w n k zs) (hb : Below w.heap.size w w') : Lib.TabIs P w' n k zs := by
  unfold Lib.TabIs World.var? at h ⊢
  rw [hg] at h ⊢
  simp only [Option.bind_some] at h ⊢
  have hlt : g < w.heap.size := by
    rcases Nat.lt_or_ge g w.heap.size with h' | h'
    · exact h'
    · rw [Array.getElem?_eq_none h'] at h; cases h
  rw [hb.block g hlt]
  exact h
theorem TabOk.below {w w' : World} (h : TabOk w) (hb : Below w.heap.size w w') : TabOk w' := TabIs_below pow10_named h hb
def strconv_FormatInt.f (a0 a1 : Int) : Option ByteArray := if -9223372036854775808 ≤ a0 ∧ a0 ≤ 9223372036854775807 ∧ a1 = 10 then some ⟨(Lib.itoa a0).toArray⟩ else none
theorem strconv_FormatInt.calls (a0 a1 : Int) (r : ByteArray) (w : World) (h : strconv_FormatInt.f a0 a1 = some r) (HE : TabOk w) :
    Calls Tryd.prog 31 #[.int .i64 a0, .int .i64 a1] w fun e w' => e = .returned (.string r) ∧ Below w.heap.size w w' := by
  unfold strconv_FormatInt.f at h
  split at h
  · rename_i g
    obtain ⟨g1, g2, rfl⟩ := g
    obtain rfl := Option.some.inj h
    refine (Tryd.strconv_FormatInt_10 a0 g1 g2 w HE).mono ?_
    rintro e w' ⟨rfl, k, os, rfl⟩
    exact ⟨rfl, Lib.below_grow _ w (Nat.le_refl _) k os⟩
  · cases h
/-- What a row lists gives it. -/
theorem tab_of {l : List (String × DataW Unit)} {w : World} (hL : laidMet Tryd.prog l w) (e : l.filter (fun x => x.1 == "internal/strconv.uint64pow10") = [("internal/strconv.uint64pow10", Lib.tabData .u64 Lib.pow10Tab)]) : TabOk w := by
  have h := laidMet.filter (fun x => x.1 == "internal/strconv.uint64pow10") hL
  rw [e] at h
  exact Lib.tabIs_of_head pow10_named (t := 90) (e := 36) (n := 20) (by kernel_rfl) Tryd.underlying90 Tryd.underlying36 (by kernel_rfl) (by kernel_rfl) h
theorem err_of {l : List (String × DataW Unit)} {w : World} (hL : laidMet Tryd.prog l w) {n : String} {g : Nat} (hg : Tryd.prog.globalNamed n = some g) {name : String} {d : DataW Unit} (hm : (n, .iface name d) ∈ l) (ht : (Tryd.prog.globals[g]?).map (·.type) = some 47) : HasErr w g := by
  obtain ⟨g', t, cs, fuel, p, h1, h2, h3, h4⟩ := Go.Lib.laidMet.reads hL hm
  obtain rfl := Option.some.inj (hg.symm.trans h1)
  obtain rfl := Option.some.inj (ht.symm.trans h2)
  obtain ⟨_, uu, vv, hcs, _⟩ := iface_of_trod Tryd.underlying47 h4
  unfold World.var? at h3
  rw [hg] at h3
  simp only [Option.bind_some] at h3
  split at h3
  · rename_i cs' tt ff hb
    obtain rfl := Option.some.inj h3
    refine ⟨uu, vv, ?_⟩
    have hc : cs'[0]? = some (.iface uu vv) := by rw [← Array.getElem?_toList, hcs]; rfl
    simp [World.cell?, hb, hc]
  · cases h3
/-- The two places of bits' table that are read. -/
def Tz (w : World) : Prop := w.cell? ⟨7, 7, none⟩ = some (.int .u8 3) ∧ w.cell? ⟨7, 15, none⟩ = some (.int .u8 4)
theorem Tz.below {w w' : World} (h : Tz w) (hb : Below w.heap.size w w') : Tz w' := ⟨pw_cell_below hb h.1, pw_cell_below hb h.2⟩
def tzTab : List Int := [0,1,56,2,57,49,28,3,61,58,42,50,38,29,17,4,62,47,59,36,45,43,51,22,53,39,33,30,24,18,12,5,63,55,48,27,60,41,37,16,46,35,44,21,52,32,23,11,54,26,40,15,34,20,31,10,25,14,19,9,13,8,7,6]
theorem tz_of {l : List (String × DataW Unit)} {w : World} (hL : laidMet Tryd.prog l w) (e : l.filter (fun x => x.1 == "math/bits.deBruijn64tab") = [("math/bits.deBruijn64tab", Lib.tabData .u8 tzTab)]) : Tz w := by
  have h := laidMet.filter (fun x => x.1 == "math/bits.deBruijn64tab") hL
  rw [e] at h
  have hg : Tryd.prog.globalNamed "math/bits.deBruijn64tab" = some 7 := by kernel_rfl
  have T := Lib.tabIs_of_head hg (t := 102) (e := 5) (n := 64) (by kernel_rfl) Tryd.underlying102 Tryd.underlying5 (by kernel_rfl) (by kernel_rfl) h
  exact ⟨T.cell hg 7 (by decide), T.cell hg 15 (by decide)⟩
end Go.Proofs.YtekcgjpmlkngjaaDoor.Base
