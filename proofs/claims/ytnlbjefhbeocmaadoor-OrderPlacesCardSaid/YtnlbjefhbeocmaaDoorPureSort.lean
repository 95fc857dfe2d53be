/- order.Sort is a merge sort by a total order of the keys' places; which lists are few. -/
import Derived.Test.YtnlbjefhbeocmaaDoorPureOrdBase
import Derived.Test.YtnlbjefhbeocmaaDoorSortMath
import Derived.Test.YtnlbjefhbeocmaaDoorXSort
namespace Go.Proofs.YtnlbjefhbeocmaaDoor.Pure
open Go.RowKit Go.Proofs.YtnlbjefhbeocmaaDoor.QOrderCompares Go.Proofs.YtnlbjefhbeocmaaDoor.SortMath Go.Proofs.YtnlbjefhbeocmaaDoor.Ext Go.Proofs.YtnlbjefhbeocmaaDoorW.PrintWords Go.Proofs.YtnlbjefhbeocmaaDoorW.PrintLast Go.Proofs.YtnlbjefhbeocmaaDoorW.PrintMore
set_option linter.unusedVariables false
set_option linter.unusedSimpArgs false

/-- Directories first. -/
def dcm (x y : S23) : Int := if x.f3 = y.f3 then 0 else if x.f3 = true then -1 else 1
def bas (o : Int) (rev : Bool) (x y : S23) : Int := if rev = true then keyC o y.f0 x.f0 y.f1 y.f2 x.f1 x.f2 else keyC o x.f0 y.f0 x.f1 x.f2 y.f1 y.f2
/-- Which key is ahead, all told. -/
def wh (o : Int) (rev dirs : Bool) (x y : S23) : Int := if (if dirs = true then dcm x y else 0) = 0 then bas o rev x y else (if dirs = true then dcm x y else 0)
theorem good_dcm : Good dcm := by
  constructor
  · intro a b; unfold dcm; cases a.f3 <;> cases b.f3 <;> simp
  · intro a b d; unfold dcm; cases a.f3 <;> cases b.f3 <;> cases d.f3 <;> simp
  · intro a b; unfold dcm; cases a.f3 <;> cases b.f3 <;> simp
theorem good_bas (o : Int) (rev : Bool) : Good (bas o rev) := by
  have g := (good_key o).map (fun x : S23 => (x.f0, x.f1, x.f2))
  cases rev
  · have : bas o false = fun a b => keyC o a.f0 b.f0 a.f1 a.f2 b.f1 b.f2 := by funext x y; simp [bas]
    rw [this]; exact g
  · have : bas o true = fun a b => keyC o b.f0 a.f0 b.f1 b.f2 a.f1 a.f2 := by funext x y; simp [bas]
    rw [this]; exact g.flip
theorem good_wh (o : Int) (rev dirs : Bool) : Good (wh o rev dirs) := by
  cases dirs
  · exact (good_zero (α := S23)).lex (good_bas o rev)
  · exact good_dcm.lex (good_bas o rev)
/-- The order of two places. -/
def pl (o : Int) (rev dirs : Bool) (l : List S23) (i j : Int) : Int := wh o rev dirs (rd_T23 l i) (rd_T23 l j)
theorem ord_pl (o : Int) (rev dirs : Bool) (l : List S23) : Ord (pl o rev dirs l) := by
  have g := (good_wh o rev dirs).map (fun i : Int => rd_T23 l i)
  exact ⟨g.anti, g.tr⟩
theorem whole_eq (o : Int) (rev dirs : Bool) (x y : S23) (hx : x.f0.size ≤ 300) (hy : y.f0.size ≤ 300) (k : Nat) (hk : 300001 ≤ k) :
    order_whole.f k o rev dirs x.f0 x.f1 x.f2 x.f3 y.f0 y.f1 y.f2 y.f3 = some (wh o rev dirs x y) := by
  obtain ⟨k, rfl⟩ : ∃ j, k = j + 1 := ⟨k - 1, by omega⟩
  have c1 := comp_eq o x.f0 y.f0 hx hy x.f1 x.f2 y.f1 y.f2 x.f3 y.f3 k (by omega)
  have c2 := comp_eq o y.f0 x.f0 hy hx y.f1 y.f2 x.f1 x.f2 y.f3 x.f3 k (by omega)
  unfold order_whole.f wh bas dcm
  cases dirs <;> cases rev <;> cases hx3 : x.f3 <;> cases hy3 : y.f3 <;> rw [hx3, hy3] at c1 c2 <;> simp [order_whole.j0, c1, c2]
def okL (l : List S23) : Prop := l.length ≤ 40 ∧ ∀ x ∈ l, x.f0.size ≤ 300
theorem okL.at_ {l : List S23} (h : okL l) (i : Int) (h0 : 0 ≤ i) (h1 : i < (l.length : Int)) : (rd_T23 l i).f0.size ≤ 300 := by
  unfold rd_T23
  have hl : i.toNat < l.length := by omega
  have e : l.getD i.toNat z23 = l[i.toNat] := by simp [hl]
  rw [e]
  exact h.2 _ (List.getElem_mem hl)
theorem m_eq (o : Int) (rev dirs : Bool) (l : List S23) (hl : okL l) : ∀ n k a b out, a.length + b.length ≤ n → 300002 + n ≤ k → (∀ x ∈ a, 0 ≤ x ∧ x < (l.length : Int)) → (∀ x ∈ b, 0 ≤ x ∧ x < (l.length : Int)) →
    order_Sort.m k o rev dirs l a b out = some (out ++ mrg (pl o rev dirs l) n a b) := by
  intro n
  induction n with
  | zero =>
    intro k a b out h hk ha hb
    obtain ⟨k, rfl⟩ : ∃ j, k = j + 1 := ⟨k - 1, by omega⟩
    obtain rfl : a = [] := List.eq_nil_of_length_eq_zero (by omega)
    obtain rfl : b = [] := List.eq_nil_of_length_eq_zero (by omega)
    simp [order_Sort.m, mrg]
  | succ n ih =>
    intro k a b out h hk ha hb
    obtain ⟨k, rfl⟩ : ∃ j, k = j + 1 := ⟨k - 1, by omega⟩
    cases a with
    | nil => simp [order_Sort.m, mrg]
    | cons x a =>
      cases b with
      | nil => simp [order_Sort.m, mrg]
      | cons y b =>
        have hx := ha x (by simp)
        have hy := hb y (by simp)
        have ex : rd (x :: a) 0 = x := rfl
        have ey : rd (y :: b) 0 = y := rfl
        simp only [List.length_cons] at h
        rw [order_Sort.m, ex, ey, if_pos (by simp), if_pos ⟨hx.1, hx.2, hy.1, hy.2⟩, whole_eq o rev dirs _ _ (hl.at_ x hx.1 hx.2) (hl.at_ y hy.1 hy.2) k (by omega), Option.bind_some, mrg]
        show (if pl o rev dirs l x y ≤ 0 then _ else _) = _
        by_cases hc : pl o rev dirs l x y ≤ 0
        · rw [if_pos hc, if_pos hc]
          show order_Sort.m k o rev dirs l a (y :: b) (out ++ [x]) = _
          rw [ih k a (y :: b) (out ++ [x]) (by simp only [List.length_cons]; omega) (by omega) (fun z hz => ha z (by simp [hz])) hb]
          simp
        · rw [if_neg hc, if_neg hc]
          show order_Sort.m k o rev dirs l (x :: a) b (out ++ [y]) = _
          rw [ih k (x :: a) b (out ++ [y]) (by simp only [List.length_cons]; omega) (by omega) ha (fun z hz => hb z (by simp [hz]))]
          simp
theorem s_eq (o : Int) (rev dirs : Bool) (l : List S23) (hl : okL l) : ∀ m p n k, n ≤ m → p + n ≤ l.length → 300100 + m ≤ k → order_Sort.s k o rev dirs l (p : Int) ((p + n : Nat) : Int) = some (srt (pl o rev dirs l) m p n) := by
  have g := ord_pl o rev dirs l
  intro m
  induction m with
  | zero =>
    intro p n k hn hp hk
    obtain ⟨k, rfl⟩ : ∃ j, k = j + 1 := ⟨k - 1, by omega⟩
    obtain rfl : n = 0 := by omega
    have := hl.1
    rw [order_Sort.s, if_pos (by omega), if_pos (by omega), if_neg (by omega)]
    rfl
  | succ m ih =>
    intro p n k hn hp hk
    obtain ⟨k, rfl⟩ : ∃ j, k = j + 1 := ⟨k - 1, by omega⟩
    have h40 := hl.1
    rw [order_Sort.s, if_pos (by omega), srt]
    by_cases h2 : n < 2
    · rw [if_pos (by omega), if_pos h2]
      by_cases h1 : n = 1
      · rw [if_pos (by omega), if_pos h1]
      · rw [if_neg (by omega), if_neg h1]
    · rw [if_neg (by omega), if_neg h2]
      have eh : (p : Int) + (((p + n : Nat) : Int) - (p : Int)) / 2 = ((p + n / 2 : Nat) : Int) := by omega
      have e2 : ((p + n : Nat) : Int) = ((p + n / 2 + (n - n / 2) : Nat) : Int) := by omega
      rw [eh, ih p (n / 2) k (by omega) (by omega) (by omega), Option.bind_some, e2, ih (p + n / 2) (n - n / 2) k (by omega) (by omega) (by omega), Option.bind_some]
      have l1 := srt_len g m p (n / 2) (by omega)
      have l2 := srt_len g m (p + n / 2) (n - n / 2) (by omega)
      rw [if_pos (by omega), m_eq o rev dirs l hl n k _ _ _ (by omega) (by omega) (fun x hx => ?_) (fun x hx => ?_)]
      · rfl
      · have := (mem_rng _ _ _).1 ((srt_spec g m p (n / 2) (by omega)).1.mem_iff.1 hx); omega
      · have := (mem_rng _ _ _).1 ((srt_spec g m (p + n / 2) (n - n / 2) (by omega)).1.mem_iff.1 hx); omega
/-- The sorted places. -/
def sorted (o : Int) (rev dirs : Bool) (l : List S23) : List Int := srt (pl o rev dirs l) l.length 0 l.length
theorem sort_eq (o : Int) (rev dirs : Bool) (l : List S23) (hl : okL l) (k : Nat) (hk : 310000 ≤ k) : order_Sort.f k o rev dirs l = some (sorted o rev dirs l) := by
  have h40 := hl.1
  have h := s_eq o rev dirs l hl l.length 0 l.length k (Nat.le_refl _) (by omega) (by omega)
  rw [Nat.zero_add] at h
  exact h
theorem sorted_perm (o : Int) (rev dirs : Bool) (l : List S23) : (sorted o rev dirs l).Perm (rng 0 l.length) := (srt_spec (ord_pl o rev dirs l) _ _ _ (Nat.le_refl _)).1
theorem sorted_sorted (o : Int) (rev dirs : Bool) (l : List S23) : Sorted (pl o rev dirs l) (sorted o rev dirs l) := (srt_spec (ord_pl o rev dirs l) _ _ _ (Nat.le_refl _)).2
theorem sorted_len (o : Int) (rev dirs : Bool) (l : List S23) : (sorted o rev dirs l).length = l.length := srt_len (ord_pl o rev dirs l) _ _ _ (Nat.le_refl _)
theorem few_l (l : List S23) : ∀ m i k : Nat, 200 - i ≤ m → i ≤ 200 → 3 * m + 3 ≤ k → ∃ b, domesdayref10_Few.l0 k l 40 (i : Int) = some b ∧ (b = true → l.length ≤ 40 ∧ ∀ j : Nat, i ≤ j → j < l.length → j < 200 → (rd_T23 l (j : Int)).f0.size ≤ 300) := by
  intro m
  induction m with
  | zero =>
    intro i k hm hi hk
    obtain ⟨k, rfl⟩ : ∃ j, k = j + 2 := ⟨k - 2, by omega⟩
    refine ⟨decide ((l.length : Int) ≤ 40), ?_, fun h => ⟨by have := of_decide_eq_true h; omega, fun j h1 h2 h3 => by omega⟩⟩
    rw [domesdayref10_Few.l0]
    by_cases c : (i : Int) < (l.length : Int)
    · rw [if_pos c, decide_eq_false (by omega), domesdayref10_Few.j1, if_neg (by simp)]
    · rw [if_neg c, domesdayref10_Few.j1, if_neg (by simp)]
  | succ m ih =>
    intro i k hm hi hk
    by_cases h200 : i = 200
    · exact ih i k (by omega) hi (by omega)
    obtain ⟨k, rfl⟩ : ∃ j, k = j + 2 := ⟨k - 2, by omega⟩
    rw [domesdayref10_Few.l0]
    by_cases c : (i : Int) < (l.length : Int)
    · rw [if_pos c, decide_eq_true (by omega), domesdayref10_Few.j1, if_pos rfl, if_pos (by omega), if_pos c]
      by_cases c2 : (((rd_T23 l (i : Int)).f0).size : Int) > 300
      · rw [if_pos c2]
        exact ⟨false, rfl, fun h => by cases h⟩
      · rw [if_neg c2, wrap_id ((i : Int) + 1) (by omega) (by omega), show ((i : Int) + 1) = ((i + 1 : Nat) : Int) from by omega]
        obtain ⟨b, hb, hp⟩ := ih (i + 1) k (by omega) (by omega) (by omega)
        refine ⟨b, hb, fun h => ⟨(hp h).1, fun j h1 h2 h3 => ?_⟩⟩
        rcases Nat.eq_or_lt_of_le h1 with rfl | h4
        · omega
        · exact (hp h).2 j h4 h2 h3
    · rw [if_neg c, domesdayref10_Few.j1, if_neg (by simp)]
      exact ⟨_, rfl, fun h => ⟨by have := of_decide_eq_true h; omega, fun j h1 h2 h3 => by omega⟩⟩
theorem few_eq (l : List S23) (k : Nat) (hk : 1000 ≤ k) : ∃ b, domesdayref10_Few.f k l 40 = some b ∧ (b = true → okL l) := by
  obtain ⟨b, hb, hp⟩ := few_l l 200 0 k (by omega) (by omega) (by omega)
  refine ⟨b, hb, fun h => ⟨(hp h).1, fun x hx => ?_⟩⟩
  obtain ⟨j, hj, rfl⟩ := List.getElem_of_mem hx
  have h1 := (hp h).1
  have := (hp h).2 j (by omega) hj (by omega)
  unfold rd_T23 at this
  simpa [hj] using this
end Go.Proofs.YtnlbjefhbeocmaaDoor.Pure
