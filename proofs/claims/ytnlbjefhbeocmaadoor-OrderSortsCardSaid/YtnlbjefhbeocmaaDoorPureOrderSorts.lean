/- P10.2: of all keys the places are the chapter's (40 keys). No condition. -/
import Derived.Test.YtnlbjefhbeocmaaDoorPureSort
import Derived.Test.YtnlbjefhbeocmaaDoorQOrderSorts
namespace Go.Proofs.YtnlbjefhbeocmaaDoor.Pure
open Go.RowKit Go.Proofs.YtnlbjefhbeocmaaDoor.QOrderCompares Go.Proofs.YtnlbjefhbeocmaaDoor.SortMath Go.Proofs.YtnlbjefhbeocmaaDoor.Ext Go.Proofs.YtnlbjefhbeocmaaDoorW.PrintWords Go.Proofs.YtnlbjefhbeocmaaDoorW.PrintLast Go.Proofs.YtnlbjefhbeocmaaDoorW.PrintMore
set_option linter.unusedVariables false
set_option linter.unusedSimpArgs false

theorem keyC_small (o : Int) (x y : S23) : -1 ≤ keyC o x.f0 y.f0 x.f1 x.f2 y.f1 y.f2 ∧ keyC o x.f0 y.f0 x.f1 x.f2 y.f1 y.f2 ≤ 1 := ((good_key o).map (fun x : S23 => (x.f0, x.f1, x.f2))).small x y
theorem keyC_anti (o : Int) (x y : S23) : keyC o y.f0 x.f0 y.f1 y.f2 x.f1 x.f2 = -keyC o x.f0 y.f0 x.f1 x.f2 y.f1 y.f2 := ((good_key o).map (fun x : S23 => (x.f0, x.f1, x.f2))).anti x y
theorem ahead_eq (o : Int) (rev dirs : Bool) (l : List S23) (hl : okL l) (i j : Int) (i0 : 0 ≤ i) (i1 : i < (l.length : Int)) (j0 : 0 ≤ j) (j1 : j < (l.length : Int)) (k : Nat) (hk : 300001 ≤ k) :
    domesdayref10_ahead.f k o rev dirs l i j = some (lt (pl o rev dirs l) i j) := by
  obtain ⟨k, rfl⟩ : ∃ j, k = j + 1 := ⟨k - 1, by omega⟩
  have c1 := rcomp_eq o (rd_T23 l i).f0 (rd_T23 l j).f0 (hl.at_ i i0 i1) (hl.at_ j j0 j1) (rd_T23 l i).f1 (rd_T23 l i).f2 (rd_T23 l j).f1 (rd_T23 l j).f2 (rd_T23 l i).f3 (rd_T23 l j).f3 k (by omega)
  have sm := keyC_small o (rd_T23 l i) (rd_T23 l j)
  have an := keyC_anti o (rd_T23 l i) (rd_T23 l j)
  rw [domesdayref10_ahead.f, if_pos i0, if_pos i1, if_pos j0, if_pos j1]
  unfold lt pl wh bas dcm
  generalize rd_T23 l i = x at *
  generalize rd_T23 l j = y at *
  rw [an]
  generalize keyC o x.f0 y.f0 x.f1 x.f2 y.f1 y.f2 = c at *
  have w1 : wrap64 (-c) = -c := wrap_id _ (by omega) (by omega)
  obtain ⟨x0, x1, x2, x3⟩ := x
  obtain ⟨y0, y1, y2, y3⟩ := y
  have three : c = -1 ∨ c = 0 ∨ c = 1 := by omega
  cases dirs <;> cases rev <;> cases x3 <;> cases y3 <;> rcases three with rfl | rfl | rfl <;> simp_all [domesdayref10_ahead.j0]
theorem rng_succ (p n : Nat) : rng p (n + 1) = (p : Int) :: rng (p + 1) n := by
  unfold rng
  rw [List.range_succ_eq_map]
  simp only [List.map_cons, List.map_map, Nat.add_zero]
  congr 1
  apply List.map_congr_left
  intro i _
  simp only [Function.comp]
  omega
theorem cnt_l (o : Int) (rev dirs : Bool) (l : List S23) (hl : okL l) (out : List Int) (ho : out.length = l.length) (i : Nat) (hi : i < l.length) (hlt : cnt (pl o rev dirs l) l.length (i : Int) < l.length) :
    ∀ m c n K : Nat, c + m = l.length → 300001 ≤ K → n + (rng c m).countP (fun k => lt (pl o rev dirs l) k (i : Int)) = cnt (pl o rev dirs l) l.length (i : Int) →
    domesdayref10_Sort.l1 (K + m + 1) o rev dirs l out (i : Int) (n : Int) (c : Int) = domesdayref10_Sort.l0 K o rev dirs l (out.set (cnt (pl o rev dirs l) l.length (i : Int)) (i : Int)) ((i + 1 : Nat) : Int) := by
  have g := ord_pl o rev dirs l
  have h40 := hl.1
  intro m
  induction m with
  | zero =>
    intro c n K hc hK hn
    have e0 : (rng c 0).countP (fun k => lt (pl o rev dirs l) k (i : Int)) = 0 := rfl
    rw [e0] at hn
    rw [domesdayref10_Sort.l1, if_neg (by omega), if_pos (by omega), if_pos (by omega), Int.toNat_natCast, wrap_id ((i : Int) + 1) (by omega) (by omega)]
    rw [show n = cnt (pl o rev dirs l) l.length (i : Int) from by omega]
    rfl
  | succ m ih =>
    intro c n K hc hK hn
    rw [rng_succ, List.countP_cons] at hn
    rw [show K + (m + 1) + 1 = (K + m + 1) + 1 from by omega, domesdayref10_Sort.l1, if_pos (by omega)]
    by_cases e : (c : Int) = (i : Int)
    · rw [if_pos e, wrap_id ((c : Int) + 1) (by omega) (by omega), show (c : Int) + 1 = ((c + 1 : Nat) : Int) from by omega]
      rw [e, g.irrefl] at hn
      exact ih (c + 1) n K (by omega) hK (by simpa using hn)
    · rw [if_neg e, ahead_eq o rev dirs l hl (c : Int) (i : Int) (by omega) (by omega) (by omega) (by omega) _ (by omega), Option.bind_some, wrap_id ((c : Int) + 1) (by omega) (by omega), show (c : Int) + 1 = ((c + 1 : Nat) : Int) from by omega]
      have hle : n ≤ l.length := by omega
      cases hb : lt (pl o rev dirs l) (c : Int) (i : Int)
      · rw [if_neg (by simp)]
        rw [hb] at hn
        exact ih (c + 1) n K (by omega) hK (by simpa using hn)
      · rw [if_pos rfl, wrap_id ((n : Int) + 1) (by omega) (by omega), show (n : Int) + 1 = ((n + 1 : Nat) : Int) from by omega]
        rw [hb] at hn
        exact ih (c + 1) (n + 1) K (by omega) hK (by simp at hn; omega)
def fin (c : Int → Int → Int) (n : Nat) : Nat → Nat → List Int → List Int
  | 0, _, out => out
  | r + 1, i, out => fin c n r (i + 1) (out.set (cnt c n (i : Int)) (i : Int))
theorem fin_spec {c : Int → Int → Int} (g : Ord c) {p : List Int} {n : Nat} (hp : p.Perm (rng 0 n)) (hs : Sorted c p) : ∀ r i out, i + r = n → out.length = n → (∀ k : Nat, k < i → out[cnt c n (k : Int)]? = some (k : Int)) →
    (fin c n r i out).length = n ∧ ∀ k : Nat, k < n → (fin c n r i out)[cnt c n (k : Int)]? = some (k : Int) := by
  intro r
  induction r with
  | zero => intro i out hi ho h; exact ⟨ho, fun k hk => h k (by omega)⟩
  | succ r ih =>
    intro i out hi ho h
    refine ih (i + 1) _ (by omega) (by simp [ho]) (fun k hk => ?_)
    have hc := cnt_lt g hp hs i (by omega)
    by_cases e : k = i
    · subst e
      rw [List.getElem?_set_self (by omega)]
    · have hne : cnt c n (i : Int) ≠ cnt c n (k : Int) := fun he => e (cnt_inj g hp hs i k (by omega) (by omega) he).symm
      rw [List.getElem?_set_ne hne]
      exact h k (by omega)
theorem ref_l (o : Int) (rev dirs : Bool) (l : List S23) (hl : okL l) : ∀ r i out K, i + r = l.length → out.length = l.length → K = 300001 + r * (l.length + 2) + 1 →
    domesdayref10_Sort.l0 K o rev dirs l out (i : Int) = some (fin (pl o rev dirs l) l.length r i out) := by
  intro r
  induction r with
  | zero =>
    intro i out K hi ho hK
    subst hK
    rw [show 300001 + 0 * (l.length + 2) + 1 = 300001 + 1 from by omega, domesdayref10_Sort.l0, if_neg (by omega)]
    rfl
  | succ r ih =>
    intro i out K hi ho hK
    have hm : (r + 1) * (l.length + 2) = r * (l.length + 2) + (l.length + 2) := by rw [Nat.succ_mul]
    have hlt := cnt_lt (ord_pl o rev dirs l) (sorted_perm o rev dirs l) (sorted_sorted o rev dirs l) i (by omega)
    rw [show K = (300001 + r * (l.length + 2) + 1 + l.length + 1) + 1 from by omega, domesdayref10_Sort.l0, if_pos (by omega)]
    have h := cnt_l o rev dirs l hl out ho i (by omega) hlt l.length 0 0 (300001 + r * (l.length + 2) + 1) (by omega) (by omega) (by rw [Nat.zero_add]; rfl)
    rw [show ((0 : Nat) : Int) = 0 from rfl] at h
    rw [h]
    exact ih (i + 1) _ _ (by omega) (by simp [ho]) rfl
theorem ref_eq (o : Int) (rev dirs : Bool) (l : List S23) (hl : okL l) (k : Nat) (hk : 310000 ≤ k) : domesdayref10_Sort.f k o rev dirs l = some (sorted o rev dirs l) := by
  have h40 := hl.1
  have hm : l.length * (l.length + 2) ≤ 40 * 42 := Nat.mul_le_mul (by omega) (by omega)
  have h := ref_l o rev dirs l hl l.length 0 (List.replicate l.length 0) _ (by omega) (by simp) rfl
  have e := fin_spec (ord_pl o rev dirs l) (sorted_perm o rev dirs l) (sorted_sorted o rev dirs l) l.length 0 (List.replicate l.length 0) (by omega) (by simp) (fun k hk => by omega)
  rw [by_counts (ord_pl o rev dirs l) (sorted_perm o rev dirs l) (sorted_sorted o rev dirs l) e.1 e.2] at h
  refine at_rounds (fun k => domesdayref10_Sort.mono o rev dirs l k) (k := 300001 + l.length * (l.length + 2) + 1) (by omega) ?_
  rw [domesdayref10_Sort.f, if_pos (by omega), if_pos (by omega), Int.toNat_natCast]
  exact h
theorem same_l (x : List Int) : ∀ m i k : Nat, x.length - i ≤ m → i ≤ x.length → x.length ≤ 1000 → m < k → domesdaylaw10_OrderSorts.l0 k x x (i : Int) = some true := by
  intro m
  induction m with
  | zero =>
    intro i k h1 h2 h3 hk
    obtain ⟨k, rfl⟩ : ∃ j, k = j + 1 := ⟨k - 1, by omega⟩
    rw [domesdaylaw10_OrderSorts.l0, if_neg (by omega)]
  | succ m ih =>
    intro i k h1 h2 h3 hk
    obtain ⟨k, rfl⟩ : ∃ j, k = j + 1 := ⟨k - 1, by omega⟩
    rw [domesdaylaw10_OrderSorts.l0]
    by_cases c : (i : Int) < (x.length : Int)
    · rw [if_pos c, if_pos (by omega), if_pos c, if_pos rfl, wrap_id ((i : Int) + 1) (by omega) (by omega), show (i : Int) + 1 = ((i + 1 : Nat) : Int) from by omega]
      exact ih (i + 1) k (by omega) (by omega) h3 (by omega)
    · rw [if_neg c]
theorem OrderSorts (o : Int) (rev dirs : Bool) (l : List S23) : ∃ k, domesdaylaw10_OrderSorts.f k o rev dirs l = some true := by
  refine ⟨400000 + 1, ?_⟩
  obtain ⟨b, hb, hp⟩ := few_eq l (400000 + 1) (by omega)
  rw [domesdaylaw10_OrderSorts.f, awake_eq _ (by omega), Option.bind_some, if_pos rfl, hb, Option.bind_some, domesdaylaw10_OrderSorts.j0]
  cases b with
  | false => rw [if_pos (by decide), awake_eq _ (by omega)]; rfl
  | true =>
    have hl := hp rfl
    have h40 := hl.1
    have hlen := sorted_len o rev dirs l
    rw [if_neg (by simp), sort_eq o rev dirs l hl _ (by omega), Option.bind_some, ref_eq o rev dirs l hl _ (by omega), Option.bind_some, if_pos rfl]
    exact same_l _ 100 0 _ (by omega) (by omega) (by omega) (by omega)
end Go.Proofs.YtnlbjefhbeocmaaDoor.Pure
