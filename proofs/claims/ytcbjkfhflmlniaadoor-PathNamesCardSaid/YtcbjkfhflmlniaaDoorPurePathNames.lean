/- P8.1: of all paths the names are told, and whether they begin, and end, with a '/'. No condition. -/
import Derived.Test.YtcbjkfhflmlniaaDoorQPathNamesx1
import Derived.OpenShut
namespace Go.Proofs.YtcbjkfhflmlniaaDoor.PureNames
open Go.RowKit Go.Lib Go.Proofs.YtcbjkfhflmlniaaDoor.QPathNames Go.Proofs.YtcbjkfhflmlniaaDoor.Ext Go.Proofs.YtcbjkfhflmlniaaDoor.PathMath Go.Proofs.YtcbjkfhflmlniaaDoorW.PrintWords Go.Proofs.YtcbjkfhflmlniaaDoorW.PrintLast Go.Proofs.YtcbjkfhflmlniaaDoorW.PrintMore
set_option linter.unusedVariables false
set_option linter.unusedSimpArgs false

theorem wrap_id (x : Int) (h : -9223372036854775808 ≤ x) (h' : x ≤ 9223372036854775807) : wrap64 x = x := by unfold wrap64; omega
abbrev L (s : ByteArray) : List UInt8 := s.data.toList
theorem L_len (s : ByteArray) : (L s).length = s.size := by rw [Array.length_toList]; rfl
theorem L_inj (s t : ByteArray) (h : L s = L t) : s = t := by
  cases s; cases t; congr 1; exact Array.toList_inj.1 h
theorem bt_get (s : ByteArray) (i : Nat) (h : i < (L s).length) : bt s (i : Int) = (((L s)[i]'h).toNat : Int) := by
  have h' : i < s.size := by rw [← L_len]; exact h
  unfold bt
  rw [dif_pos (by simpa using h')]
  simp [ByteArray.getElem_eq_getElem_data]
theorem L_extract (s : ByteArray) (a b : Nat) : L (s.extract a b) = ((L s).drop a).take (b - a) := by
  show (s.extract a b).data.toList = _
  rw [ByteArray.data_extract, Array.toList_extract, List.extract_eq_take_drop]
def B (l : List UInt8) : ByteArray := ⟨l.toArray⟩
theorem L_B (l : List UInt8) : L (B l) = l := by simp [L, B]
theorem B_L (s : ByteArray) : B (L s) = s := L_inj _ _ (L_B _)
/-- The document's names. -/
theorem ref_l (s : ByteArray) (hs : s.size ≤ 5000) : ∀ m i f k : Nat, ∀ out : List ByteArray, s.size - i ≤ m → i ≤ s.size → f ≤ i → out.length ≤ i → 2 * m + 6 ≤ k →
    domesdayref08_Names.l0 k s out (f : Int) (i : Int) = some (out ++ (nm (((L s).drop f).take (i - f)) ((L s).drop i)).map B) := by
  intro m
  have stop : ∀ (k : Nat) (out : List ByteArray) (f : Int), 1 ≤ k → domesdayref08_Names.l0 k s out f (wrap64 ((s.size : Int) + 1)) = some out := by
    intro k out f hk
    obtain ⟨k, rfl⟩ : ∃ j, k = j + 1 := ⟨k - 1, by omega⟩
    rw [domesdayref08_Names.l0, wrap_id _ (by omega) (by omega), if_neg (by omega)]
  have fin : ∀ (i f k : Nat) (out : List ByteArray), i = s.size → f ≤ i → out.length ≤ i → 6 ≤ k → domesdayref08_Names.l0 k s out (f : Int) (i : Int) = some (out ++ (nm (((L s).drop f).take (i - f)) ((L s).drop i)).map B) := by
    intro i f k out hi hf ho hk
    obtain ⟨k, rfl⟩ : ∃ j, k = j + 2 := ⟨k - 2, by omega⟩
    rw [domesdayref08_Names.l0, if_pos (by omega), if_pos (by omega), domesdayref08_Names.j1, if_pos rfl, List.drop_eq_nil_of_le (show (L s).length ≤ i from by rw [L_len]; omega), nm]
    have hcl : (((L s).drop f).take (i - f)).length = i - f := by rw [List.length_take, List.length_drop, L_len]; omega
    by_cases g : f < i
    · rw [if_pos (by omega), if_pos (by omega), if_pos (by omega), if_pos (by omega), if_pos (by omega), hi, stop _ _ _ (by omega), if_neg (by intro e; rw [hi] at hcl g; rw [e] at hcl; simp at hcl; omega)]
      have : s.extract ((f : Nat) : Int).toNat ((s.size : Nat) : Int).toNat = B (((L s).drop f).take (s.size - f)) := by
        apply L_inj; rw [L_extract, L_B]; simp
      rw [this]; rfl
    · rw [if_neg (by omega), hi, stop _ _ _ (by omega), if_pos (by apply List.length_eq_zero_iff.1; rw [← hi, hcl]; omega)]
      simp
  induction m with
  | zero =>
    intro i f k out h1 h2 hf ho hk
    exact fin i f k out (by omega) hf ho (by omega)
  | succ m ih =>
    intro i f k out h1 h2 hf ho hk
    by_cases g : i < s.size
    · obtain ⟨k, rfl⟩ : ∃ j, k = j + 2 := ⟨k - 2, by omega⟩
      have gl : i < (L s).length := by rw [L_len]; exact g
      have e := List.drop_eq_getElem_cons gl
      have hcl : (((L s).drop f).take (i - f)).length = i - f := by rw [List.length_take, List.length_drop, L_len]; omega
      rw [domesdayref08_Names.l0, if_pos (by omega), if_neg (by omega), if_pos (by omega), if_pos (by omega), bt_get s i gl, e, nm, domesdayref08_Names.j1]
      rw [wrap_id ((i : Int) + 1) (by omega) (by omega), show ((i : Int) + 1) = ((i + 1 : Nat) : Int) from by omega]
      by_cases c : (L s)[i]'gl = 47
      · have cb : ((((L s)[i]'gl).toNat : Int) == 47) = true := by rw [c]; rfl
        rw [cb, if_pos rfl, if_pos c]
        have e0 : ((L s).drop (i + 1)).take (i + 1 - (i + 1)) = [] := by rw [Nat.sub_self]; rfl
        by_cases gf : f < i
        · rw [if_pos (by omega), if_pos (by omega), if_pos (by omega), if_pos (by omega), if_pos (by omega), ih (i + 1) (i + 1) k _ (by omega) (by omega) (Nat.le_refl _) (by rw [List.length_append]; simp; omega) (by omega), e0,
            if_neg (by intro e; rw [e] at hcl; simp at hcl; omega)]
          have : s.extract ((f : Nat) : Int).toNat ((i : Nat) : Int).toNat = B (((L s).drop f).take (i - f)) := by
            apply L_inj; rw [L_extract, L_B]; simp
          rw [this]; simp
        · rw [if_neg (by omega), ih (i + 1) (i + 1) k _ (by omega) (by omega) (Nat.le_refl _) (by omega) (by omega), e0, if_pos (by apply List.length_eq_zero_iff.1; rw [hcl]; omega)]
      · have cb : ((((L s)[i]'gl).toNat : Int) == 47) = false := by
          rw [beq_eq_false_iff_ne]; intro h; apply c; apply UInt8.toNat_inj.1; have : (47 : UInt8).toNat = 47 := rfl; omega
        rw [cb, if_neg (by simp), if_neg c, ih (i + 1) f k _ (by omega) (by omega) (by omega) (by omega) (by omega)]
        have ea : ((L s).drop f).take (i + 1 - f) = ((L s).drop f).take (i - f) ++ [(L s)[i]'gl] := by
          rw [show i + 1 - f = (i - f) + 1 from by omega, List.take_add_one, List.getElem?_drop, show f + (i - f) = i from by omega, List.getElem?_eq_getElem gl]; rfl
        rw [ea]
    · exact fin i f k out (by omega) hf ho (by omega)
theorem ref_eq (s : ByteArray) (hs : s.size ≤ 5000) (k : Nat) (hk : 10006 ≤ k) : domesdayref08_Names.f k s = some ((nm [] (L s)).map B) := by
  have := ref_l s hs 5000 0 0 k [] (by omega) (by omega) (by omega) (by simp) (by omega)
  rw [domesdayref08_Names.f]; exact this
theorem names_eq (s : ByteArray) : (pieces s).filter full = (nm [] (L s)).map B := by
  have := split_nm (countB s sl) s rfl
  rw [show nm [] (L s) = ((pieces s).filter full).map (·.data.toList) from this.symm, List.map_map]
  have : (B ∘ fun x : ByteArray => x.data.toList) = id := by funext x; exact B_L x
  rw [this, List.map_id]
theorem same_l (x : List ByteArray) (hx : x.length ≤ 20000) : ∀ m i k : Nat, x.length - i ≤ m → i ≤ x.length → m < k → domesdaylaw08_PathNames.l0 k x x (i : Int) = some true := by
  intro m
  induction m with
  | zero =>
    intro i k h1 h2 hk
    obtain ⟨k, rfl⟩ : ∃ j, k = j + 1 := ⟨k - 1, by omega⟩
    rw [domesdaylaw08_PathNames.l0, if_neg (by omega)]
  | succ m ih =>
    intro i k h1 h2 hk
    obtain ⟨k, rfl⟩ : ∃ j, k = j + 1 := ⟨k - 1, by omega⟩
    by_cases g : i < x.length
    · rw [domesdaylaw08_PathNames.l0, if_pos (by omega), if_pos (by omega), if_pos (by omega), if_pos rfl, wrap_id _ (by omega) (by omega), show ((i : Int) + 1) = ((i + 1 : Nat) : Int) from by omega]
      exact ih (i + 1) k (by omega) (by omega) (by omega)
    · rw [domesdaylaw08_PathNames.l0, if_neg (by omega)]
theorem beq47 (a : UInt8) : ((a.toNat : Int) == 47) = ([a] == [47]) := by
  by_cases c : a = 47
  · subst c; rfl
  · have h1 : ((a.toNat : Int) == 47) = false := by rw [beq_eq_false_iff_ne]; intro h; apply c; apply UInt8.toNat_inj.1; have : (47 : UInt8).toNat = 47 := rfl; omega
    have h2 : ([a] == [47]) = false := by rw [beq_eq_false_iff_ne]; intro h; exact c (List.cons.inj h).1
    rw [h1, h2]
theorem pre_eq (s : ByteArray) (h : 0 < s.size) : hasPrefix (L s) [47] = (bt s 0 == 47) := by
  have gl : 0 < (L s).length := by rw [L_len]; exact h
  have hb := bt_get s 0 gl
  have e : (L s).take 1 = [(L s)[0]'gl] := by
    rw [show (L s).take 1 = ((L s).drop 0).take 1 from by rw [List.drop_zero], List.drop_eq_getElem_cons gl]; rfl
  rw [← hasPrefix_of_take, show ([47] : List UInt8).length = 1 from rfl, e, decide_eq_true (show 1 ≤ (L s).length from gl), Bool.true_and]
  exact ((congrArg (· == (47 : Int)) hb).trans (beq47 _)).symm
theorem suf_eq (s : ByteArray) (h : 0 < s.size) : hasSuffix (L s) [47] = (bt s ((s.size : Int) - 1) == 47) := by
  have hn := L_len s
  have gl : s.size - 1 < (L s).length := by omega
  have hb := bt_get s (s.size - 1) gl
  have e : (L s).drop (s.size - 1) = [(L s)[s.size - 1]'gl] := by
    rw [List.drop_eq_getElem_cons gl, List.drop_eq_nil_of_le (by omega)]
  rw [← hasSuffix_of_drop, show ([47] : List UInt8).length = 1 from rfl, hn, e, decide_eq_true (show 1 ≤ s.size from h), Bool.true_and]
  rw [show ((s.size : Int) - 1) = ((s.size - 1 : Nat) : Int) from by omega, hb]
  exact (beq47 _).symm
theorem awake_eq : domesdaylaw08_awake.f = some true := by
  have hf : path_Names.f ⟨#[47, 97, 47, 47, 98, 47]⟩ = some ([⟨#[97]⟩, ⟨#[98]⟩], true, true) := by
    unfold path_Names.f
    rw [if_pos (by decide), names_eq]
    rfl
  rw [domesdaylaw08_awake.f, hf]
  rfl
end Go.Proofs.YtcbjkfhflmlniaaDoor.PureNames
namespace Go.Proofs.YtcbjkfhflmlniaaDoor.Pure
open Go.RowKit Go.Lib Go.Proofs.YtcbjkfhflmlniaaDoor.PureNames Go.Proofs.YtcbjkfhflmlniaaDoor.QPathNames Go.Proofs.YtcbjkfhflmlniaaDoor.Ext Go.Proofs.YtcbjkfhflmlniaaDoor.PathMath Go.Proofs.YtcbjkfhflmlniaaDoorW.PrintWords
theorem PathNames (s : ByteArray) : ∃ k, domesdaylaw08_PathNames.f k s = some true := by
  refine ⟨20010, ?_⟩
  rw [domesdaylaw08_PathNames.f, awake_eq, Option.bind_some, if_pos rfl]
  rw [show (20010 : Nat) = 20009 + 1 from rfl, domesdaylaw08_PathNames.j0]
  by_cases g : (s.size : Int) > 5000
  · rw [decide_eq_true g, if_pos rfl, awake_eq]; rfl
  · rw [decide_eq_false g, if_neg (by simp)]
    have hs : s.size ≤ 5000 := by omega
    have hp : path_Names.f s = some ((nm [] (L s)).map B, hasPrefix s.data.toList [47], hasSuffix s.data.toList [47]) := by
      unfold path_Names.f; rw [if_pos (by omega), names_eq]
    have hl : ((nm [] (L s)).map B).length ≤ 20000 := by
      rw [← names_eq]
      have h1 : ((pieces s).filter full).length ≤ (pieces s).length := List.length_filter_le _ _
      have h2 := pieces_len s
      have h3 := count_le s
      omega
    rw [hp, Option.bind_some, ref_eq s hs _ (by omega), Option.bind_some]
    simp only [if_true]
    generalize (nm [] (L s)).map B = x at hl ⊢
    have last : domesdaylaw08_PathNames.j1 20009 x x false = some true := by
      rw [show (20009 : Nat) = 20008 + 1 from rfl, domesdaylaw08_PathNames.j1, if_neg (by simp)]
      exact same_l x hl x.length 0 20008 (by omega) (by omega) (by omega)
    by_cases g0 : s.size = 0
    · have hL : L s = [] := List.length_eq_zero_iff.1 (by rw [L_len]; exact g0)
      have ht : s.toList = [] := by rw [ByteArray.toList_eq]; exact hL
      rw [if_pos ht, show s.data.toList = [] from hL]
      exact last
    · have ht : ¬ s.toList = [] := by
        rw [ByteArray.toList_eq]; intro e
        have := L_len s
        rw [show L s = [] from e] at this
        exact g0 this.symm
      rw [if_neg ht, if_pos (by omega), pre_eq s (by omega), suf_eq s (by omega), wrap_id _ (by omega) (by omega), if_neg (by simp), if_pos (by omega), if_pos (by omega), bne_self_eq_false]
      exact last
end Go.Proofs.YtcbjkfhflmlniaaDoor.Pure
