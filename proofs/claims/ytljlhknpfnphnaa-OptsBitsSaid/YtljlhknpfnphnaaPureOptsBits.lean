/- P13.3: what is read in two bits is read as a whole (15 arguments each). -/
import Derived.Test.YtljlhknpfnphnaaPureOptBase
import Derived.Test.YtljlhknpfnphnaaQBits
namespace Go.Proofs.Ytljlhknpfnphnaa.Pure
open Go.RowKit Go.Proofs.Ytljlhknpfnphnaa.QOpts Go.Proofs.YtljlhknpfnphnaaW.PrintWords Go.Proofs.YtljlhknpfnphnaaW.PrintLast Go.Proofs.YtljlhknpfnphnaaW.PrintMore
set_option linter.unusedVariables false
set_option linter.unusedSimpArgs false

theorem long_more {specs : List S42} {arg : ByteArray} {args args' : List ByteArray} {os os' : List S36} (h : longF specs arg args os = some (args', os')) (t : List ByteArray) (os0 : List S36) :
    longF specs arg (args ++ t) (os0 ++ os) = some (args' ++ t, os0 ++ os') := by
  unfold longF at h ⊢
  split at h
  · cases h
  · split at h
    · rename_i hv
      rw [if_pos hv]
      split at h
      · rename_i hq
        rw [if_pos hq]
        simp only [Option.some.injEq, Prod.mk.injEq] at h
        obtain ⟨rfl, rfl⟩ := h
        simp
      · rename_i hq
        rw [if_neg hq]
        split at h
        · cases h
        · simp only [Option.some.injEq, Prod.mk.injEq] at h
          obtain ⟨rfl, rfl⟩ := h
          simp
    · rename_i hv
      rw [if_neg hv]
      split at h
      · cases h
      · rename_i hq
        rw [if_neg hq]
        simp only [Option.some.injEq, Prod.mk.injEq] at h
        obtain ⟨rfl, rfl⟩ := h
        simp
theorem letters_more {specs : List S42} {arg : ByteArray} (t : List ByteArray) (os0 : List S36) : ∀ (m i : Nat) (args : List ByteArray) (os : List S36) (args' : List ByteArray) (os' : List S36), lettersF specs arg m i args os = some (args', os') →
    lettersF specs arg m i (args ++ t) (os0 ++ os) = some (args' ++ t, os0 ++ os')
  | 0, i, args, os, args', os', h => by
    simp only [lettersF, Option.some.injEq, Prod.mk.injEq] at h ⊢
    obtain ⟨rfl, rfl⟩ := h
    exact ⟨rfl, rfl⟩
  | m + 1, i, args, os, args', os', h => by
    unfold lettersF at h ⊢
    split at h
    · rename_i hi
      rw [if_pos hi]
      split at h
      · cases h
      · split at h
        · rename_i hv
          rw [if_pos hv]
          split at h
          · rename_i hq
            rw [if_pos hq]
            simp only [Option.some.injEq, Prod.mk.injEq] at h
            obtain ⟨rfl, rfl⟩ := h
            simp
          · rename_i hq
            rw [if_neg hq]
            split at h
            · cases h
            · simp only [Option.some.injEq, Prod.mk.injEq] at h
              obtain ⟨rfl, rfl⟩ := h
              simp
        · rename_i hv
          rw [if_neg hv]
          have := letters_more t os0 m (i + 1) args _ args' os' h
          rw [← List.append_assoc] at this
          exact this
    · rename_i hi
      rw [if_neg hi]
      simp only [Option.some.injEq, Prod.mk.injEq] at h
      obtain ⟨rfl, rfl⟩ := h
      rfl
theorem take_more {specs : List S42} {arg : ByteArray} {args args' : List ByteArray} {os os' : List S36} (h : takeF specs arg args os = some (args', os')) (t : List ByteArray) (os0 : List S36) :
    takeF specs arg (args ++ t) (os0 ++ os) = some (args' ++ t, os0 ++ os') := by
  unfold takeF at h ⊢
  split at h
  · rename_i hk
    rw [if_pos hk]
    exact long_more h t os0
  · rename_i hk
    rw [if_neg hk]
    exact letters_more t os0 _ _ _ _ _ _ h
theorem take_suffix {specs : List S42} {arg : ByteArray} {args args' : List ByteArray} {os os' : List S36} (h : takeF specs arg args os = some (args', os')) : args' <:+ args := by
  unfold takeF at h
  split at h
  · exact (long_less h).1
  · exact (letters_less _ _ _ _ _ _ h).1
theorem readF_oper {specs : List S42} {m : Nat} {a : ByteArray} {rest : List ByteArray} {os : List S36} {ps : List ByteArray} (ha : ¬ a.toList = [45, 45]) (hk : kindOf a = 28) :
    readF specs (m + 1) (a :: rest) os ps = readF specs m rest os (ps ++ [a]) := by
  conv => lhs; unfold readF
  rw [if_neg ha, if_pos hk]
theorem readF_dash {specs : List S42} {m : Nat} {a : ByteArray} {rest : List ByteArray} {os : List S36} {ps : List ByteArray} (ha : a.toList = [45, 45]) :
    readF specs (m + 1) (a :: rest) os ps = (os, ps ++ rest, ⟨#[]⟩, 0) := by
  conv => lhs; unfold readF
  rw [if_pos ha]
theorem readF_nil {specs : List S42} {m : Nat} {os : List S36} {ps : List ByteArray} : readF specs m [] os ps = (os, ps, ⟨#[]⟩, 0) := by
  cases m <;> rfl
/-- What was read before is carried. -/
theorem read_carry (specs : List S42) (os0 : List S36) (ps0 : List ByteArray) : ∀ (m : Nat) (b : List ByteArray) (os : List S36) (ps : List ByteArray) (l : List S36) (q : List ByteArray) (bad : ByteArray), b.length ≤ m → readF specs m b os ps = (l, q, bad, 0) →
    ∀ m', b.length ≤ m' → readF specs m' b (os0 ++ os) (ps0 ++ ps) = (os0 ++ l, ps0 ++ q, bad, 0)
  | m, [], os, ps, l, q, bad, hm, h, m', hm' => by
    rw [readF_nil] at h ⊢
    simp only [Prod.mk.injEq] at h
    obtain ⟨rfl, rfl, rfl, _⟩ := h
    rfl
  | 0, a :: rest, os, ps, l, q, bad, hm, h, m', hm' => by simp at hm
  | m + 1, a :: rest, os, ps, l, q, bad, hm, h, m', hm' => by
    simp only [List.length_cons] at hm hm'
    obtain ⟨m', rfl⟩ : ∃ j, m' = j + 1 := ⟨m' - 1, by omega⟩
    by_cases ha : a.toList = [45, 45]
    · rw [readF_dash ha] at h ⊢
      simp only [Prod.mk.injEq] at h
      obtain ⟨rfl, rfl, rfl, _⟩ := h
      rw [List.append_assoc]
    · by_cases hk : kindOf a = 28
      · rw [readF_oper ha hk] at h ⊢
        rw [List.append_assoc]
        exact read_carry specs os0 ps0 m rest os _ l q bad (by omega) h m' (by omega)
      · rw [readF_take ha hk] at h ⊢
        cases hT : takeF specs a rest os with
        | none =>
          rw [hT] at h
          simp only [Prod.mk.injEq] at h
          exact absurd h.2.2.2 (by decide)
        | some p =>
          obtain ⟨rest', os'⟩ := p
          rw [hT] at h
          have h2 := take_more hT [] os0
          rw [List.append_nil, List.append_nil] at h2
          rw [h2]
          have hl := (take_suffix hT).length_le
          exact read_carry specs os0 ps0 m rest' os' ps l q bad (by omega) h m' (by omega)
/-- Behind what is well there may stand more. -/
theorem read_more (specs : List S42) (t : List ByteArray) : ∀ (m : Nat) (a : List ByteArray) (os : List S36) (ps : List ByteArray) (l : List S36) (q : List ByteArray) (bad : ByteArray), a.length ≤ m → (∀ x ∈ a, ¬ x.toList = [45, 45]) → readF specs m a os ps = (l, q, bad, 0) →
    ∀ m', a.length + t.length ≤ m' → ∃ m'', t.length ≤ m'' ∧ readF specs m' (a ++ t) os ps = readF specs m'' t l q
  | m, [], os, ps, l, q, bad, hm, hx, h, m', hm' => by
    rw [readF_nil] at h
    simp only [Prod.mk.injEq] at h
    obtain ⟨rfl, rfl, rfl, _⟩ := h
    exact ⟨m', by simpa using hm', rfl⟩
  | 0, a :: rest, os, ps, l, q, bad, hm, hx, h, m', hm' => by simp at hm
  | m + 1, a :: rest, os, ps, l, q, bad, hm, hx, h, m', hm' => by
    simp only [List.length_cons] at hm hm'
    obtain ⟨m', rfl⟩ : ∃ j, m' = j + 1 := ⟨m' - 1, by omega⟩
    have ha := hx a (by simp)
    rw [List.cons_append]
    by_cases hk : kindOf a = 28
    · rw [readF_oper ha hk] at h ⊢
      exact read_more specs t m rest os _ l q bad (by omega) (fun x h => hx x (List.mem_cons_of_mem _ h)) h m' (by omega)
    · rw [readF_take ha hk] at h ⊢
      cases hT : takeF specs a rest os with
      | none =>
        rw [hT] at h
        simp only [Prod.mk.injEq] at h
        exact absurd h.2.2.2 (by decide)
      | some p =>
        obtain ⟨rest', os'⟩ := p
        rw [hT] at h
        have h2 := take_more hT t []
        rw [List.nil_append, List.nil_append] at h2
        rw [h2]
        have hs := take_suffix hT
        have hl := hs.length_le
        exact read_more specs t m rest' os' ps l q bad (by omega) (fun x h => hx x (List.mem_cons_of_mem _ (hs.subset h))) h m' (by omega)
/-- Two bits, and between them an operand. -/
theorem read_bits (specs : List S42) (a b : List ByteArray) (l m : List S36) (p q : List ByteArray) (b1 b2 : ByteArray) (hx : ∀ x ∈ a, ¬ x.toList = [45, 45]) (h1 : readF specs a.length a [] [] = (l, p, b1, 0)) (h2 : readF specs b.length b [] [] = (m, q, b2, 0)) (k : Nat) (hk : a.length + 1 + b.length ≤ k) :
    readF specs k (a ++ [(⟨#[120]⟩ : ByteArray)] ++ b) [] [] = (l ++ m, p ++ [(⟨#[120]⟩ : ByteArray)] ++ q, b2, 0) := by
  obtain ⟨n, hn, e⟩ := read_more specs ((⟨#[120]⟩ : ByteArray) :: b) a.length a [] [] l p b1 (Nat.le_refl _) hx h1 k (by simp; omega)
  simp only [List.length_cons] at hn
  obtain ⟨n, rfl⟩ : ∃ j, n = j + 1 := ⟨n - 1, by omega⟩
  rw [List.append_assoc]
  show readF specs k (a ++ ((⟨#[120]⟩ : ByteArray) :: b)) [] [] = _
  rw [e, readF_oper (by rw [show (⟨#[120]⟩ : ByteArray).toList = [120] from by kernel_rfl]; decide) (by kernel_rfl)]
  have := read_carry specs l (p ++ [(⟨#[120]⟩ : ByteArray)]) b.length b [] [] m q b2 (Nat.le_refl _) h2 n (by omega)
  rw [List.append_nil, List.append_nil] at this
  exact this
theorem opt_at (x : List S36) (hn : x.length ≤ 1000000) : ∀ r i K : Nat, i + r = x.length → r + 1 ≤ K → domesdayref13_Same.l0 K x x (i : Int) = some true := by
  intro r
  induction r with
  | zero =>
    intro i K h hK
    obtain ⟨K, rfl⟩ : ∃ j, K = j + 1 := ⟨K - 1, by omega⟩
    rw [domesdayref13_Same.l0, if_neg (by omega)]
  | succ r ih =>
    intro i K h hK
    obtain ⟨K, rfl⟩ : ∃ j, K = j + 1 := ⟨K - 1, by omega⟩
    rw [domesdayref13_Same.l0, if_pos (by omega), if_pos (by omega), if_pos (by omega), if_neg (by simp), wrap_id _ (by omega) (by omega), show (i : Int) + 1 = ((i + 1 : Nat) : Int) from by omega]
    exact ih (i + 1) K (by omega) (by omega)
theorem opt_refl (x : List S36) (hn : x.length ≤ 1000000) (K : Nat) (hK : 1000001 ≤ K) : domesdayref13_Same.f K x x = some true := by
  unfold domesdayref13_Same.f
  rw [if_pos rfl]
  exact opt_at x hn x.length 0 K (by omega) (by omega)
/-- How much may be read. -/
theorem read_small (specs : List S42) : ∀ (m : Nat) (a : List ByteArray) (os : List S36) (ps : List ByteArray), Small a os ps → (readF specs m a os ps).1.length ≤ 1000000 ∧ (readF specs m a os ps).2.1.length ≤ ps.length + a.length
  | 0, a, os, ps, h => by
    obtain ⟨h1, h2, h3⟩ := h
    exact ⟨by show os.length ≤ _; omega, by show ps.length ≤ _; omega⟩
  | m + 1, [], os, ps, h => by
    obtain ⟨h1, h2, h3⟩ := h
    rw [readF_nil]
    exact ⟨by show os.length ≤ _; omega, by show ps.length ≤ _; omega⟩
  | m + 1, a :: rest, os, ps, h => by
    by_cases ha : a.toList = [45, 45]
    · rw [readF_dash ha]
      obtain ⟨h1, h2, h3⟩ := h
      simp only [List.length_cons] at h2 h3
      exact ⟨by show os.length ≤ _; omega, by show (ps ++ rest).length ≤ _; simp⟩
    · by_cases hk : kindOf a = 28
      · rw [readF_oper ha hk]
        obtain ⟨c1, c2⟩ := read_small specs m rest os (ps ++ [a]) h.oper
        exact ⟨c1, by simp at c2; simp; omega⟩
      · rw [readF_take ha hk]
        cases hT : takeF specs a rest os with
        | none => exact ⟨by simp, by simp⟩
        | some p =>
          obtain ⟨rest', os'⟩ := p
          obtain ⟨hs, hl⟩ := h.take hT
          obtain ⟨c1, c2⟩ := read_small specs m rest' os' ps hs
          exact ⟨c1, by simp only [List.length_cons]; omega⟩
theorem small_of {a : List ByteArray} (hl : a.length ≤ 100) (h : ∀ x ∈ a, x.size ≤ 1000) : Small a [] [] := ⟨h, by simp; omega, by simp; omega⟩
theorem bits_l0 (specs : List S42) (a b : List ByteArray) (hs : specs.length ≤ 30) (hla : a.length ≤ 14) (hlb : b.length ≤ 15) (hba : ∀ x ∈ a, x.size ≤ 200) (hbb : ∀ x ∈ b, x.size ≤ 200) :
    ∀ r i K : Nat, i + r = a.length → r + 1000100 ≤ K → (∀ j, (h : j < a.length) → j < i → ¬ a[j].toList = [45, 45]) → domesdaylaw13_OptsBits.l0 K specs a b (i : Int) = some true := by
  intro r
  induction r with
  | zero =>
    intro i K h hK hx
    obtain ⟨K, rfl⟩ : ∃ j, K = j + 2 := ⟨K - 2, by omega⟩
    have hxa : ∀ x ∈ a, ¬ x.toList = [45, 45] := fun x hm => by
      obtain ⟨j, hj, rfl⟩ := List.getElem_of_mem hm
      exact hx j hj (by omega)
    have hw : ∀ x ∈ a ++ [(⟨#[120]⟩ : ByteArray)] ++ b, x.size ≤ 1000 := fun x hm => by
      rcases List.mem_append.1 hm with hm | hm
      · rcases List.mem_append.1 hm with hm | hm
        · have := hba x hm; omega
        · simp at hm; subst hm; decide
      · have := hbb x hm; omega
    have hwl : (a ++ [(⟨#[120]⟩ : ByteArray)] ++ b).length ≤ 100 := by simp; omega
    rw [domesdaylaw13_OptsBits.l0, if_neg (by omega)]
    simp only [Option.bind_some, List.nil_append, List.length_nil]
    rw [if_pos (by omega)]
    rw [if_pos (by omega)]
    try simp only [Option.bind_some]
    rw [read_f (K + 1) specs a (by omega) (by omega) (fun x hm => by have := hba x hm; omega), read_f (K + 1) specs b (by omega) (by omega) (fun x hm => by have := hbb x hm; omega)]
    try simp only [Option.bind_some]
    rw [if_pos (by simp; omega), read_f (K + 1) specs _ (by omega) (by omega) hw]
    try simp only [Option.bind_some]
    have hj : ∀ x9 x10 x13 x14 x17 x18 x20, domesdaylaw13_OptsBits.j2 (K + 1) x9 x10 x13 x14 x17 x18 x20 true = some true := fun _ _ _ _ _ _ _ => by
      rw [domesdaylaw13_OptsBits.j2, if_pos rfl]
    have sA := read_small specs a.length a [] [] (small_of (by omega) (fun x hm => by have := hba x hm; omega))
    have sB := read_small specs b.length b [] [] (small_of (by omega) (fun x hm => by have := hbb x hm; omega))
    have sW := read_small specs (a ++ [(⟨#[120]⟩ : ByteArray)] ++ b).length _ [] [] (small_of hwl hw)
    have hbits := read_bits specs a b
    generalize hA : readF specs a.length a [] [] = RA at *
    generalize hB : readF specs b.length b [] [] = RB at *
    obtain ⟨l, p, bad1, e1⟩ := RA
    obtain ⟨m, q, bad2, e2⟩ := RB
    by_cases he1 : e1 = 0
    · rw [if_pos he1]
      by_cases he2 : e2 = 0
      · subst he1 he2
        have hW := hbits l m p q bad1 bad2 hxa rfl rfl (a ++ [(⟨#[120]⟩ : ByteArray)] ++ b).length (by simp; omega)
        rw [hW] at sW ⊢
        simp only [List.length_append, List.length_cons, List.length_nil] at sA sB sW
        rw [domesdaylaw13_OptsBits.j2, if_neg (show ¬ (((0 : Int) != 0) = true) by decide)]
        simp only [Option.bind_some, List.nil_append, List.length_nil]
        rw [if_pos (by omega)]
        try simp only [Option.bind_some]
        rw [if_pos (by omega)]
        try simp only [Option.bind_some]
        rw [if_pos (by simp; omega), if_pos trivial]
        rw [if_pos (by omega)]
        try simp only [Option.bind_some]
        rw [if_pos (by omega), opt_refl (l ++ m) (by simp; omega) K (by omega)]
        try simp only [Option.bind_some]
        rw [if_pos trivial, same_refl _ (by simp; omega) K (by omega)]
        rfl
      · have hb : (e2 != 0) = true := bne_iff_ne.2 he2
        show domesdaylaw13_OptsBits.j2 (K + 1) _ _ _ _ _ _ _ (e2 != 0) = some true
        rw [hb]
        exact hj _ _ _ _ _ _ _
    · rw [if_neg he1]
      exact hj _ _ _ _ _ _ _
  | succ r ih =>
    intro i K h hK hx
    obtain ⟨K, rfl⟩ : ∃ j, K = j + 1 := ⟨K - 1, by omega⟩
    have hi : i < a.length := by omega
    rw [domesdaylaw13_OptsBits.l0, if_pos (by omega), if_pos (by omega), rd_at a i hi]
    by_cases hd : a[i].toList = [45, 45]
    · rw [if_pos hd]
    · rw [if_neg hd, wrap_id _ (by omega) (by omega), show (i : Int) + 1 = ((i + 1 : Nat) : Int) from by omega]
      refine ih (i + 1) K (by omega) (by omega) (fun j hj h2 => ?_)
      rcases Nat.lt_or_ge j i with h3 | h3
      · exact hx j hj h3
      · obtain rfl : j = i := by omega
        exact hd
theorem OptsBits (l0 : List S42) (l1 l2 : List ByteArray) : ∃ k, domesdaylaw13_OptsBits.f k l0 l1 l2 = some true := by
  refine ⟨1000201, ?_⟩
  unfold domesdaylaw13_OptsBits.f
  rw [awake]
  simp only [Option.bind_some]
  rw [if_pos trivial]
  have hj : domesdaylaw13_OptsBits.j0 1000201 l0 l1 l2 true = some true := by
    rw [domesdaylaw13_OptsBits.j0, if_pos rfl, awake]
    rfl
  obtain ⟨b, hb, hc⟩ := few l0 l1 1000201 (by omega)
  rw [hb]
  simp only [Option.bind_some]
  cases b with
  | false => rw [if_neg (by decide)]; exact hj
  | true =>
    rw [if_pos rfl]
    obtain ⟨c1, c2, c3⟩ := hc rfl
    obtain ⟨b', hb', hc'⟩ := few l0 l2 1000201 (by omega)
    rw [hb']
    simp only [Option.bind_some]
    cases b' with
    | false => rw [if_neg (by decide)]; exact hj
    | true =>
      rw [if_pos rfl]
      obtain ⟨d1, d2, d3⟩ := hc' rfl
      by_cases h14 : (l1.length : Int) > 14
      · rw [if_pos h14]; exact hj
      · rw [if_neg h14]
        by_cases h15 : (l2.length : Int) > 15
        · rw [decide_eq_true h15]; exact hj
        · rw [decide_eq_false h15, domesdaylaw13_OptsBits.j0, if_neg (by decide)]
          exact bits_l0 l0 l1 l2 c2 (by omega) (by omega) (fun x hm => by
            obtain ⟨j, hj, rfl⟩ := List.getElem_of_mem hm
            exact c3 j hj) (fun x hm => by
            obtain ⟨j, hj, rfl⟩ := List.getElem_of_mem hm
            exact d3 j hj) l1.length 0 1000200 (by omega) (by omega) (fun j hj h => by omega)
end Go.Proofs.Ytljlhknpfnphnaa.Pure
