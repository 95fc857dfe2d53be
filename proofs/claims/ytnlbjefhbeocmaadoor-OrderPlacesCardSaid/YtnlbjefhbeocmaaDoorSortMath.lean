/- A merge sort of places by a total order: what comes out is sorted, a permutation, and unique. -/
namespace Go.Proofs.YtnlbjefhbeocmaaDoor.SortMath
set_option linter.unusedVariables false
set_option linter.unusedSimpArgs false

def mrg (c : Int → Int → Int) : Nat → List Int → List Int → List Int
  | n + 1, x :: a, y :: b => if c x y ≤ 0 then x :: mrg c n a (y :: b) else y :: mrg c n (x :: a) b
  | _, a, b => a ++ b
theorem mrg_nil_left (c : Int → Int → Int) (n : Nat) (b : List Int) : mrg c n [] b = b := by cases n <;> rfl
theorem mrg_nil_right (c : Int → Int → Int) (n : Nat) (a : List Int) : mrg c n a [] = a := by
  cases n <;> cases a <;> simp [mrg]
/-- Ahead: by the order; alike: by the place. -/
def lt (c : Int → Int → Int) (i j : Int) : Bool := decide (c i j < 0) || (decide (c i j = 0) && decide (i < j))
structure Ord (c : Int → Int → Int) : Prop where
  anti : ∀ i j, c j i = -c i j
  tr : ∀ i j k, c i j ≤ 0 → c j k ≤ 0 → c i k ≤ 0
theorem lt_iff (c : Int → Int → Int) (i j : Int) : lt c i j = true ↔ (c i j < 0 ∨ (c i j = 0 ∧ i < j)) := by
  unfold lt; simp
theorem Ord.trans {c : Int → Int → Int} (g : Ord c) {i j k : Int} (h1 : lt c i j = true) (h2 : lt c j k = true) : lt c i k = true := by
  rw [lt_iff] at h1 h2 ⊢
  have t1 := g.tr i j k (by omega) (by omega)
  have a1 := g.anti i j
  have a2 := g.anti j k
  have a3 := g.anti i k
  rcases Int.lt_or_le (c i k) 0 with h | h
  · exact .inl h
  · have e : c i k = 0 := by omega
    have t2 := g.tr k i j (by omega) (by omega)
    have t3 := g.tr j k i (by omega) (by omega)
    right
    exact ⟨e, by omega⟩
theorem Ord.irrefl {c : Int → Int → Int} (g : Ord c) (i : Int) : lt c i i = false := by
  have a := g.anti i i
  rw [Bool.eq_false_iff, Ne, lt_iff]
  omega
theorem Ord.asymm {c : Int → Int → Int} (g : Ord c) {i j : Int} (h1 : lt c i j = true) : lt c j i = false := by
  rw [Bool.eq_false_iff]
  intro h2
  have := g.trans h1 h2
  rw [g.irrefl] at this
  cases this
theorem Ord.total {c : Int → Int → Int} (g : Ord c) {i j : Int} (h : i ≠ j) : lt c i j = true ∨ lt c j i = true := by
  have a := g.anti i j
  rw [lt_iff, lt_iff]
  omega
abbrev Sorted (c : Int → Int → Int) (l : List Int) : Prop := l.Pairwise (fun i j => lt c i j = true)
theorem mrg_perm (c : Int → Int → Int) : ∀ n a b, (mrg c n a b).Perm (a ++ b) := by
  intro n
  induction n with
  | zero => intro a b; cases a <;> cases b <;> exact List.Perm.refl _
  | succ n ih =>
    intro a b
    cases a with
    | nil => rw [mrg_nil_left]; exact List.Perm.refl _
    | cons x a =>
      cases b with
      | nil => rw [mrg_nil_right]; simp
      | cons y b =>
        rw [mrg]
        split
        · exact (ih a (y :: b)).cons x
        · exact ((ih (x :: a) b).cons y).trans (List.perm_middle.symm)
theorem mrg_sorted {c : Int → Int → Int} (g : Ord c) : ∀ n a b, a.length + b.length ≤ n → Sorted c a → Sorted c b → (∀ x ∈ a, ∀ y ∈ b, x < y) → Sorted c (mrg c n a b) := by
  intro n
  induction n with
  | zero =>
    intro a b h _ _ _
    obtain rfl : a = [] := List.eq_nil_of_length_eq_zero (by omega)
    obtain rfl : b = [] := List.eq_nil_of_length_eq_zero (by omega)
    rw [mrg_nil_left]; exact List.Pairwise.nil
  | succ n ih =>
    intro a b h ha hb hab
    cases a with
    | nil => rw [mrg_nil_left]; exact hb
    | cons x a =>
      cases b with
      | nil => rw [mrg_nil_right]; exact ha
      | cons y b =>
        obtain ⟨ha1, ha2⟩ := List.pairwise_cons.1 ha
        obtain ⟨hb1, hb2⟩ := List.pairwise_cons.1 hb
        have hxy := hab x (by simp) y (by simp)
        simp only [List.length_cons] at h
        rw [mrg]
        split
        · next hc =>
          have l1 : lt c x y = true := by rw [lt_iff]; omega
          refine List.pairwise_cons.2 ⟨fun z hz => ?_, ih a (y :: b) (by simp; omega) ha2 hb (fun u hu v hv => hab u (by simp [hu]) v hv)⟩
          have hz' := (mrg_perm c n a (y :: b)).mem_iff.1 hz
          rcases List.mem_append.1 hz' with hz1 | hz1
          · exact ha1 z hz1
          · rcases List.mem_cons.1 hz1 with rfl | hz2
            · exact l1
            · exact g.trans l1 (hb1 z hz2)
        · next hc =>
          have l1 : lt c y x = true := by rw [lt_iff]; have := g.anti x y; omega
          refine List.pairwise_cons.2 ⟨fun z hz => ?_, ih (x :: a) b (by simp; omega) ha hb2 (fun u hu v hv => hab u hu v (by simp [hv]))⟩
          have hz' := (mrg_perm c n (x :: a) b).mem_iff.1 hz
          rcases List.mem_append.1 hz' with hz1 | hz1
          · rcases List.mem_cons.1 hz1 with rfl | hz2
            · exact l1
            · exact g.trans l1 (ha1 z hz2)
          · exact hb1 z hz1
def rng (p n : Nat) : List Int := (List.range n).map (fun i => ((p + i : Nat) : Int))
theorem rng_len (p n : Nat) : (rng p n).length = n := by simp [rng]
theorem mem_rng (p n : Nat) (x : Int) : x ∈ rng p n ↔ (p : Int) ≤ x ∧ x < ((p + n : Nat) : Int) := by
  simp only [rng, List.mem_map, List.mem_range]
  constructor
  · rintro ⟨i, hi, rfl⟩; omega
  · intro h; exact ⟨x.toNat - p, by omega, by omega⟩
theorem rng_append (p h m : Nat) : rng p h ++ rng (p + h) m = rng p (h + m) := by
  apply List.ext_getElem
  · simp [rng]
  · intro i h1 h2
    simp only [rng, List.length_append, List.length_map, List.length_range] at h1 h2
    rw [List.getElem_append]
    split
    · simp [rng]
    · next hh => simp [rng] at hh ⊢; omega
theorem rng_nodup (p n : Nat) : (rng p n).Nodup := by
  unfold rng
  rw [List.nodup_iff_pairwise_ne, List.pairwise_map]
  exact List.Pairwise.imp (fun {a b} h => by omega) (List.pairwise_lt_range (n := n))
def srt (c : Int → Int → Int) : Nat → Nat → Nat → List Int
  | 0, _, _ => []
  | m + 1, p, n => if n < 2 then (if n = 1 then [(p : Int)] else []) else mrg c n (srt c m p (n / 2)) (srt c m (p + n / 2) (n - n / 2))
theorem srt_spec {c : Int → Int → Int} (g : Ord c) : ∀ m p n, n ≤ m → (srt c m p n).Perm (rng p n) ∧ Sorted c (srt c m p n) := by
  intro m
  induction m with
  | zero =>
    intro p n h
    obtain rfl : n = 0 := by omega
    exact ⟨List.Perm.refl _, List.Pairwise.nil⟩
  | succ m ih =>
    intro p n h
    rw [srt]
    split
    · split
      · next h1 => subst h1; exact ⟨List.Perm.refl _, by simp [Sorted]⟩
      · next h1 => obtain rfl : n = 0 := by omega
                   exact ⟨List.Perm.refl _, List.Pairwise.nil⟩
    · next h2 =>
      obtain ⟨p1, s1⟩ := ih p (n / 2) (by omega)
      obtain ⟨p2, s2⟩ := ih (p + n / 2) (n - n / 2) (by omega)
      have l1 := p1.length_eq
      have l2 := p2.length_eq
      rw [rng_len] at l1 l2
      refine ⟨(mrg_perm c _ _ _).trans ((p1.append p2).trans ?_), mrg_sorted g _ _ _ (by omega) s1 s2 (fun x hx y hy => ?_)⟩
      · rw [rng_append, show n / 2 + (n - n / 2) = n from by omega]
      · have := (mem_rng _ _ _).1 (p1.mem_iff.1 hx)
        have := (mem_rng _ _ _).1 (p2.mem_iff.1 hy)
        omega
theorem srt_len {c : Int → Int → Int} (g : Ord c) (m p n : Nat) (h : n ≤ m) : (srt c m p n).length = n := by
  rw [(srt_spec g m p n h).1.length_eq, rng_len]
/-- How many are ahead. -/
def cnt (c : Int → Int → Int) (n : Nat) (i : Int) : Nat := (rng 0 n).countP (fun k => lt c k i)
theorem sorted_count {c : Int → Int → Int} (g : Ord c) {l : List Int} (hs : Sorted c l) (j : Nat) (hj : j < l.length) : l.countP (fun k => lt c k l[j]) = j := by
  have e : l = l.take j ++ l[j] :: l.drop (j + 1) := by simp
  have hp := List.pairwise_iff_getElem.1 hs
  have h1 : (l.take j).countP (fun k => lt c k l[j]) = j := by
    rw [List.countP_eq_length.2, List.length_take]
    · omega
    · intro x hx
      obtain ⟨i, hi, rfl⟩ := List.getElem_of_mem hx
      rw [List.length_take] at hi
      rw [List.getElem_take]
      exact hp i j (by omega) hj (by omega)
  have h2 : (l.drop (j + 1)).countP (fun k => lt c k l[j]) = 0 := by
    rw [List.countP_eq_zero]
    intro x hx
    obtain ⟨i, hi, rfl⟩ := List.getElem_of_mem hx
    rw [List.length_drop] at hi
    rw [List.getElem_drop]
    rw [g.asymm (hp j (j + 1 + i) hj (by omega) (by omega))]
    decide
  have h3 : l.countP (fun k => lt c k l[j]) = (l.take j ++ l[j] :: l.drop (j + 1)).countP (fun k => lt c k l[j]) := by rw [← e]
  rw [h3, List.countP_append, List.countP_cons, h1, h2, g.irrefl]
  simp
theorem cnt_at {c : Int → Int → Int} (g : Ord c) {l : List Int} {n : Nat} (hp : l.Perm (rng 0 n)) (hs : Sorted c l) (j : Nat) (hj : j < l.length) : cnt c n l[j] = j := by
  unfold cnt
  rw [← hp.countP_eq]
  exact sorted_count g hs j hj
theorem place_of {l : List Int} {n : Nat} (hp : l.Perm (rng 0 n)) (i : Nat) (hi : i < n) : ∃ j, ∃ h : j < l.length, l[j] = (i : Int) := by
  have : (i : Int) ∈ l := hp.mem_iff.2 ((mem_rng 0 n _).2 ⟨by omega, by omega⟩)
  obtain ⟨j, hj, e⟩ := List.getElem_of_mem this
  exact ⟨j, hj, e⟩
theorem cnt_lt {c : Int → Int → Int} (g : Ord c) {l : List Int} {n : Nat} (hp : l.Perm (rng 0 n)) (hs : Sorted c l) (i : Nat) (hi : i < n) : cnt c n (i : Int) < n := by
  obtain ⟨j, hj, e⟩ := place_of hp i hi
  rw [← e, cnt_at g hp hs j hj]
  have := hp.length_eq
  rw [rng_len] at this
  omega
theorem cnt_inj {c : Int → Int → Int} (g : Ord c) {l : List Int} {n : Nat} (hp : l.Perm (rng 0 n)) (hs : Sorted c l) (i k : Nat) (hi : i < n) (hk : k < n) (h : cnt c n (i : Int) = cnt c n (k : Int)) : i = k := by
  obtain ⟨j, hj, e⟩ := place_of hp i hi
  obtain ⟨j', hj', e'⟩ := place_of hp k hk
  rw [← e, ← e', cnt_at g hp hs j hj, cnt_at g hp hs j' hj'] at h
  subst h
  have : ((i : Nat) : Int) = (k : Int) := e.symm.trans e'
  omega
/-- Where each place stands at the number of those ahead of it, the list is the sorted one. -/
theorem by_counts {c : Int → Int → Int} (g : Ord c) {l out : List Int} {n : Nat} (hp : l.Perm (rng 0 n)) (hs : Sorted c l) (ho : out.length = n) (h : ∀ i : Nat, i < n → out[cnt c n (i : Int)]? = some (i : Int)) : out = l := by
  have hl := hp.length_eq
  rw [rng_len] at hl
  apply List.ext_getElem (by omega)
  intro j h1 h2
  have hm := (mem_rng 0 n _).1 (hp.mem_iff.1 (List.getElem_mem h2))
  have e : ((l[j].toNat : Nat) : Int) = l[j] := by omega
  have := h l[j].toNat (by omega)
  rw [e, cnt_at g hp hs j h2, List.getElem?_eq_getElem h1] at this
  exact Option.some.inj this
theorem sorted_unique {c : Int → Int → Int} (g : Ord c) {l l' : List Int} (hs : Sorted c l) (hs' : Sorted c l') (hp : l.Perm l') : l = l' :=
  List.Perm.eq_of_pairwise (fun a b _ _ h1 h2 => by rw [g.asymm h1] at h2; cases h2) hs hs' hp
end Go.Proofs.YtnlbjefhbeocmaaDoor.SortMath
