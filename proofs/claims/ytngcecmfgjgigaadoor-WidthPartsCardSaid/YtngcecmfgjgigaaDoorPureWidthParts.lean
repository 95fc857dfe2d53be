/- P2.2: what is cut off, and what is left, are together as wide as the text (200 bytes). No condition. -/
import Derived.Test.YtngcecmfgjgigaaDoorPureParts0
import Derived.Test.YtngcecmfgjgigaaDoorQWidthPartsx2
namespace Go.Proofs.YtngcecmfgjgigaaDoor.PureParts
open Go.RowKit Go.Lib Go.Proofs.YtngcecmfgjgigaaDoor.WMath Go.Proofs.YtngcecmfgjgigaaDoor.PureRunes Go.Proofs.YtngcecmfgjgigaaDoor.PureTexts Go.Proofs.YtngcecmfgjgigaaDoor.Ext Go.Proofs.YtngcecmfgjgigaaDoorW.PrintWords Go.Proofs.YtngcecmfgjgigaaDoorW.PrintLast Go.Proofs.YtngcecmfgjgigaaDoorW.PrintMore
set_option linter.unusedVariables false
set_option linter.unusedSimpArgs false

theorem wl_range (v : Int) (h0 : 0 ≤ v) (h2 : v ≤ 2) (r d : Int) (hd : 0 ≤ d ∧ d ≤ 2) : ∀ l, 0 ≤ wl v l r d ∧ wl v l r d ≤ 2 := by
  intro l
  induction l with
  | nil => exact hd
  | cons p l ih =>
    unfold wl
    split
    · exact ⟨h0, h2⟩
    · exact ih
theorem wd_range (r : Int) : 0 ≤ wd r ∧ wd r ≤ 2 := wl_range 0 (by omega) (by omega) r _ (wl_range 2 (by omega) (by omega) r 1 ⟨by omega, by omega⟩ _) _
/-- The width of the character at a place, and its length. -/
def cw (s : ByteArray) (p : Nat) : Int := wd (nx (s.extract p s.size)).1
def cn (s : ByteArray) (p : Nat) : Nat := (nx (s.extract p s.size)).2.toNat
set_option maxRecDepth 100000 in
theorem decodeN_le (n b0 b1 b2 b3 : Nat) (hn : 0 < n) : (decodeN n b0 b1 b2 b3).2 ≤ n := by
  unfold decodeN
  repeat' split
  all_goals (simp only; omega)
theorem cn_pos (s : ByteArray) (p : Nat) (h : p < s.size) : 1 ≤ cn s p := by
  have := nx_len _ (ext_size s p h); unfold cn; omega
theorem cn_le (s : ByteArray) (p : Nat) (h : p < s.size) : p + cn s p ≤ s.size := by
  have z : (s.extract p s.size).size = s.size - p := by rw [ByteArray.size_extract]; omega
  have hd : (decodeGo (s.extract p s.size)).2 ≤ s.size - p := by
    unfold decodeGo
    rw [if_neg (by omega), decode_at, z]
    exact decodeN_le _ _ _ _ _ (by omega)
  unfold cn nx
  split
  · show p + 1 ≤ s.size; omega
  · show p + (((decodeGo (s.extract p s.size)).2 : Nat) : Int).toNat ≤ s.size; omega
def sumS : Nat → ByteArray → Nat → Int
  | 0, _, _ => 0
  | m + 1, s, p => if p < s.size then cw s p + sumS m s (p + cn s p) else 0
theorem sumS_range (s : ByteArray) : ∀ m p, 0 ≤ sumS m s p ∧ sumS m s p ≤ 2 * (m : Int) := by
  intro m
  induction m with
  | zero => intro p; exact ⟨by simp [sumS], by simp [sumS]⟩
  | succ m ih =>
    intro p
    have h1 := wd_range (nx (s.extract p s.size)).1
    have h2 := ih (p + cn s p)
    unfold sumS cw
    split
    · omega
    · omega
theorem sumS_same (s : ByteArray) : ∀ m m' p, s.size - p ≤ m → s.size - p ≤ m' → sumS m s p = sumS m' s p := by
  intro m
  induction m with
  | zero =>
    intro m' p h h'
    cases m' with
    | zero => rfl
    | succ m' => rw [sumS, sumS, if_neg (by omega)]
  | succ m ih =>
    intro m' p h h'
    cases m' with
    | zero => rw [sumS, sumS, if_neg (by omega)]
    | succ m' =>
      rw [sumS, sumS]
      by_cases g : p < s.size
      · have hn := cn_pos s p g
        rw [if_pos g, if_pos g, ih m' _ (by omega) (by omega)]
      · rw [if_neg g, if_neg g]
theorem ofS_sum (s : ByteArray) : ∀ m p : Nat, ∀ acc : Int, 0 ≤ acc → acc + 2 * (m : Int) < 1000000 → ofS m s p acc = acc + sumS m s p := by
  intro m
  induction m with
  | zero => intro p acc h0 h1; simp [ofS, sumS]
  | succ m ih =>
    intro p acc h0 h1
    have h2 := wd_range (nx (s.extract p s.size)).1
    rw [ofS, sumS]
    by_cases g : p < s.size
    · rw [if_pos g, if_pos g, wrap_id _ (by omega) (by omega)]
      show ofS m s (p + cn s p) (acc + cw s p) = _
      have : cw s p = wd (nx (s.extract p s.size)).1 := rfl
      rw [ih _ _ (by omega) (by omega)]
      omega
    · rw [if_neg g, if_neg g]; omega
theorem ofB_sum (s : ByteArray) (h : s.size ≤ 1000) : ofB s = sumS s.size s 0 := by
  unfold ofB
  rw [ofS_sum s s.size 0 0 (by omega) (by omega)]
  omega
theorem ext_ext (s : ByteArray) (i q : Nat) (h : i ≤ s.size) : (s.extract i s.size).extract q (s.extract i s.size).size = s.extract (i + q) s.size := by
  rw [ByteArray.size_extract]
  rw [ByteArray.extract_extract]
  congr 1
  omega
theorem cw_shift (s : ByteArray) (i q : Nat) (h : i ≤ s.size) : cw (s.extract i s.size) q = cw s (i + q) := by
  unfold cw; rw [ext_ext s i q h]
theorem cn_shift (s : ByteArray) (i q : Nat) (h : i ≤ s.size) : cn (s.extract i s.size) q = cn s (i + q) := by
  unfold cn; rw [ext_ext s i q h]
theorem sumS_shift (s : ByteArray) (i : Nat) (h : i ≤ s.size) : ∀ m q, sumS m (s.extract i s.size) q = sumS m s (i + q) := by
  intro m
  have z : (s.extract i s.size).size = s.size - i := by rw [ByteArray.size_extract]; omega
  induction m with
  | zero => intro q; rfl
  | succ m ih =>
    intro q
    rw [sumS, sumS, cw_shift s i q h, cn_shift s i q h, ih, z]
    by_cases g : i + q < s.size
    · rw [if_pos g, if_pos (by omega), Nat.add_assoc]
    · rw [if_neg g, if_neg (by omega)]
/-- From one place another one is reached, over characters of a width together. -/
inductive R (s : ByteArray) (i : Nat) : Nat → Int → Prop
  | refl : R s i i 0
  | step (p : Nat) (P : Int) : p < s.size → p + cn s p ≤ i → R s i (p + cn s p) P → R s i p (cw s p + P)
theorem R.le {s : ByteArray} {i p : Nat} {P : Int} (h : R s i p P) : p ≤ i := by
  induction h with
  | refl => omega
  | step p P h1 h2 h3 ih => omega
theorem R.head {s : ByteArray} {i p : Nat} {P : Int} (hi : i ≤ s.size) (h : R s i p P) : ∀ m, i - p ≤ m → sumS m (s.extract 0 i) p = P := by
  have z : (s.extract 0 i).size = i := by rw [ByteArray.size_extract]; omega
  induction h with
  | refl =>
    intro m _
    cases m with
    | zero => rfl
    | succ m => rw [sumS, if_neg (by omega)]
  | step p P h1 h2 h3 ih =>
    intro m hm
    have hn := cn_pos s p h1
    obtain ⟨m, rfl⟩ : ∃ j, m = j + 1 := ⟨m - 1, by omega⟩
    have hx : (nx (s.extract p s.size)).2 ≤ ((i - p : Nat) : Int) := by unfold cn at h2 hn; omega
    have e : (s.extract 0 i).extract p (s.extract 0 i).size = s.extract p i := by
      rw [z, ByteArray.extract_extract]
      congr 1 <;> omega
    have e1 := nx_prefix s p i (by omega) hi hx
    have ec : cw (s.extract 0 i) p = cw s p := by unfold cw; rw [e, e1]
    have en : cn (s.extract 0 i) p = cn s p := by unfold cn; rw [e, e1]
    rw [sumS, if_pos (by omega), ec, en, ih m (by omega)]
theorem R.tail {s : ByteArray} {i p : Nat} {P : Int} (hi : i ≤ s.size) (h : R s i p P) : sumS s.size s p = P + sumS s.size s i := by
  induction h with
  | refl => omega
  | step p P h1 h2 h3 ih =>
    have hn := cn_pos s p h1
    rw [sumS_same s s.size (s.size + 1) p (by omega) (by omega), sumS, if_pos h1, ih]
    omega
theorem R.snoc {s : ByteArray} {i p : Nat} {P : Int} (hi : i < s.size) (h : R s i p P) : R s (i + cn s i) p (P + cw s i) := by
  induction h with
  | refl =>
    have := R.step (i := i + cn s i) i 0 hi (Nat.le_refl _) R.refl
    rwa [show (0 : Int) + cw s i = cw s i + 0 from by omega]
  | step p P h1 h2 h3 ih =>
    rw [Int.add_assoc]
    exact R.step p _ h1 (by omega) ih
theorem cutS_at (s : ByteArray) (most : Int) (hs : s.size ≤ 200) : ∀ m p : Nat, ∀ acc : Int, s.size - p ≤ m → p ≤ s.size → R s p 0 acc → (p = 0 ∨ acc ≤ most) → 0 ≤ acc → acc + 2 * (m : Int) < 1000000 →
    ∃ i P, i ≤ s.size ∧ cutS m s most p acc = s.extract 0 i ∧ R s i 0 P ∧ (i = 0 ∨ P ≤ most) ∧ (i = s.size ∨ (i < s.size ∧ most < P + cw s i)) := by
  have all : s.extract 0 s.size = s := by simp
  intro m
  induction m with
  | zero =>
    intro p acc h hp hR ho h0 h1
    refine ⟨p, acc, hp, ?_, hR, ho, Or.inl (by omega)⟩
    obtain rfl : p = s.size := by omega
    rw [cutS, all]
  | succ m ih =>
    intro p acc h hp hR ho h0 h1
    have h2 : 0 ≤ cw s p ∧ cw s p ≤ 2 := wd_range _
    rw [cutS]
    by_cases g : p < s.size
    · have hn := cn_pos s p g
      rw [if_pos g]
      show ∃ i P, i ≤ s.size ∧ (if wrap64 (acc + cw s p) > most then s.extract 0 p else cutS m s most (p + cn s p) (wrap64 (acc + cw s p))) = s.extract 0 i ∧ R s i 0 P ∧ (i = 0 ∨ P ≤ most) ∧ (i = s.size ∨ (i < s.size ∧ most < P + cw s i))
      rw [wrap_id _ (by omega) (by omega)]
      by_cases c : acc + cw s p > most
      · rw [if_pos c]
        exact ⟨p, acc, hp, rfl, hR, ho, Or.inr ⟨g, by omega⟩⟩
      · rw [if_neg c]
        exact ih _ _ (by omega) (cn_le s p g) (hR.snoc g) (Or.inr (by omega)) (by omega) (by omega)
    · rw [if_neg g]
      refine ⟨p, acc, hp, ?_, hR, ho, Or.inl (by omega)⟩
      obtain rfl : p = s.size := by omega
      rw [all]
end Go.Proofs.YtngcecmfgjgigaaDoor.PureParts
namespace Go.Proofs.YtngcecmfgjgigaaDoor.Pure
open Go.RowKit Go.Proofs.YtngcecmfgjgigaaDoor.WMath Go.Proofs.YtngcecmfgjgigaaDoor.PureRunes Go.Proofs.YtngcecmfgjgigaaDoor.PureParts Go.Proofs.YtngcecmfgjgigaaDoor.PureTexts Go.Proofs.YtngcecmfgjgigaaDoor.QWidthParts Go.Proofs.YtngcecmfgjgigaaDoor.Ext
theorem WidthParts (s : ByteArray) (most : Int) : ∃ k, domesdaylaw02_WidthParts.f k s most = some true := by
  refine ⟨1001, ?_⟩
  rw [domesdaylaw02_WidthParts.f, domesdaylaw02_awake.f, Option.bind_some, if_pos rfl, domesdaylaw02_WidthParts.j0]
  by_cases g : (s.size : Int) > 200
  · rw [decide_eq_true g, if_pos rfl, domesdaylaw02_awake.f]; rfl
  · rw [decide_eq_false g, if_neg (by simp)]
    have c1 : width_Cut.f s most = some (cutS s.size s most 0 0) := cut_l s most s.size 0 (s.size + 1) 0 (by omega) (by omega)
    obtain ⟨i, P, hi, hc, hR, ho, hw⟩ := cutS_at s most (by omega) s.size 0 0 (by omega) (by omega) R.refl (Or.inl rfl) (by omega) (by omega)
    have z : (s.extract 0 i).size = i := by rw [ByteArray.size_extract]; omega
    have z2 : (s.extract i s.size).size = s.size - i := by rw [ByteArray.size_extract]; omega
    have oa : ofB (s.extract 0 i) = P := by rw [ofB_sum _ (by omega)]; exact hR.head hi _ (by omega)
    have ot : ofB s = P + sumS s.size s i := by rw [ofB_sum _ (by omega)]; exact hR.tail hi
    have orr : ofB (s.extract i s.size) = sumS s.size s i := by
      rw [ofB_sum _ (by omega), sumS_shift s i hi, sumS_same s _ s.size (i + 0) (by omega) (by omega)]; rfl
    have b1 := sumS_range s s.size i
    have b2 := sumS_range s s.size 0
    have b3 := sumS_range (s.extract 0 i) (s.extract 0 i).size 0
    rw [ofB_sum s (by omega)] at ot
    rw [ofB_sum _ (by omega)] at oa
    have hlast : (s.extract 0 i).toList = s.toList ∨ P + sumS s.size s i > most := by
      rcases hw with e | ⟨l, e⟩
      · left; rw [e]; simp
      · right
        have hn := cn_pos s i l
        rw [sumS_same s s.size (s.size + 1) i (by omega) (by omega), sumS, if_pos l]
        have := sumS_range s s.size (i + cn s i)
        omega
    rw [c1, Option.bind_some, hc, z, if_pos (by omega), if_pos (by omega), if_pos rfl, of_eq, Option.bind_some, of_eq, Option.bind_some, of_eq, Option.bind_some, orr, ofB_sum s (by omega), ofB_sum (s.extract 0 i) (by omega), oa, ot, wrap_id _ (by omega) (by omega), if_pos rfl, Option.bind_some]
    by_cases c : P ≤ most
    · rw [if_pos c]
      by_cases d : (s.extract 0 i).toList = s.toList
      · rw [if_pos d]
      · rw [if_neg d, Option.bind_some, decide_eq_true (by rcases hlast with h | h; exact absurd h d; exact h)]
    · rw [if_neg c]
      have i0 : i = 0 := by omega
      have e0 : s.extract 0 0 = ByteArray.empty := by simp
      have e : (s.extract 0 i).toList = [] := by
        rw [i0, e0]
        unfold ByteArray.toList ByteArray.toList.loop
        rfl
      rw [if_pos e]
      by_cases d : (s.extract 0 i).toList = s.toList
      · rw [if_pos d]
      · rw [if_neg d, Option.bind_some, decide_eq_true (by rcases hlast with h | h; exact absurd h d; exact h)]
end Go.Proofs.YtngcecmfgjgigaaDoor.Pure
