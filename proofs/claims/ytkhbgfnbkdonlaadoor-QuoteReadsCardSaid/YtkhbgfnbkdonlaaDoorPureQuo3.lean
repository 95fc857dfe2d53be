/- The plain laws of quote: what a shell, and C, read; what is quoted is read as it was. -/
import Derived.Test.YtkhbgfnbkdonlaaDoorPureQuo1
namespace Go.Proofs.YtkhbgfnbkdonlaaDoor.Pure
open Go.RowKit Go.Lib Go.Proofs.YtkhbgfnbkdonlaaDoor.QQuo Go.Proofs.YtkhbgfnbkdonlaaDoorW.PrintWords Go.Proofs.YtkhbgfnbkdonlaaDoorW.PrintLast Go.Proofs.YtkhbgfnbkdonlaaDoorW.PrintMore
set_option linter.unusedVariables false
set_option linter.unusedSimpArgs false

/-- The byte that an escape behind a \ means, and how many bytes it has; 0: it is none. -/
def octL : List UInt8 → UInt8 × Nat
  | a :: b :: c :: _ => if 48 ≤ a ∧ a ≤ 51 ∧ 48 ≤ b ∧ b ≤ 55 ∧ 48 ≤ c ∧ c ≤ 55 then ((a - 48) * 64 + (b - 48) * 8 + (c - 48), 3) else (0, 0)
  | _ => (0, 0)
def unL (l : List UInt8) : UInt8 × Nat := if l.head? = some 110 then (10, 1) else if l.head? = some 116 then (9, 1) else octL l
def hd39 (r : List (UInt8 × Int)) : Bool := (r.map Prod.fst).head? == some 39
/-- What a shell reads: state 0 outside, 1 between ', 2 between $' and '. -/
def shF (st : Nat) (z : List (UInt8 × Int)) (out : List UInt8) : Option (List UInt8) :=
  match z with
  | [] => if st = 0 then some out else none
  | p :: r =>
    if st = 0 then
      (if p.2 = 1 then shF 0 r (out ++ [p.1])
      else if p.1 = 92 ∧ hd39 r = true then shF 0 (r.drop 1) (out ++ [39])
      else if p.1 = 36 ∧ hd39 r = true then shF 2 (r.drop 1) out
      else if p.1 = 39 then shF 1 r out else none)
    else if st = 1 then (if p.1 = 39 then shF 0 r out else shF 1 r (out ++ [p.1]))
    else if p.1 = 39 then shF 0 r out
    else if p.1 = 92 then (if (unL (r.map Prod.fst)).2 = 0 then none else shF 2 (r.drop (unL (r.map Prod.fst)).2) (out ++ [(unL (r.map Prod.fst)).1]))
    else none
termination_by z.length
decreasing_by all_goals (simp only [List.length_cons, List.length_drop]; omega)
/-- A byte below 128 is what it is alone. -/
def Asc (z : List (UInt8 × Int)) : Prop := ∀ p ∈ z, p.1.toNat < 128 → p.2 = ascK p.1.toNat
theorem Asc.tail {p : UInt8 × Int} {z : List (UInt8 × Int)} (h : Asc (p :: z)) : Asc z := fun q hq => h q (List.mem_cons_of_mem _ hq)
theorem Asc.right {a b : List (UInt8 × Int)} (h : Asc (a ++ b)) : Asc b := fun q hq => h q (List.mem_append.2 (.inr hq))
theorem n39_92 : ¬ (39 : UInt8) = 92 := by decide
theorem n39_36 : ¬ (39 : UInt8) = 36 := by decide
theorem n92_39 : ¬ (92 : UInt8) = 39 := by decide
theorem n36_92 : ¬ (36 : UInt8) = 92 := by decide
theorem asc_ne {c : UInt8} {k : Int} {z : List (UInt8 × Int)} (h : Asc ((c, k) :: z)) (hc : c = 39 ∨ c = 36 ∨ c = 92) : k ≠ 1 := by
  have := h (c, k) (by simp)
  rcases hc with rfl | rfl | rfl
  · have h2 := this (show (39 : UInt8).toNat < 128 by decide); rw [show k = ascK (39 : UInt8).toNat from h2]; decide
  · have h2 := this (show (36 : UInt8).toNat < 128 by decide); rw [show k = ascK (36 : UInt8).toNat from h2]; decide
  · have h2 := this (show (92 : UInt8).toNat < 128 by decide); rw [show k = ascK (92 : UInt8).toNat from h2]; decide
theorem map_cons {z : List (UInt8 × Int)} {c : UInt8} {l : List UInt8} (h : z.map Prod.fst = c :: l) : ∃ k z', z = (c, k) :: z' ∧ z'.map Prod.fst = l := by
  cases z with
  | nil => cases h
  | cons p z =>
    simp only [List.map_cons, List.cons.injEq] at h
    exact ⟨p.2, z, by rw [← h.1], h.2⟩
/-- Behind a ': what is between, and back outside. -/
theorem read_in : ∀ (l : List UInt8) (z : List (UInt8 × Int)) (out rest : List UInt8), z.map Prod.fst = l.flatMap q1 ++ 39 :: rest → Asc z → ∃ z', z'.map Prod.fst = rest ∧ Asc z' ∧ shF 1 z out = shF 0 z' (out ++ l)
  | [], z, out, rest, h, ha => by
    obtain ⟨k, z', rfl, hz⟩ := map_cons (by simpa using h)
    refine ⟨z', hz, ha.tail, ?_⟩
    rw [shF, if_neg (by decide), if_pos rfl, if_pos rfl, List.append_nil]
  | c :: l, z, out, rest, h, ha => by
    rw [List.flatMap_cons, q1] at h
    by_cases hc : c = 39
    · rw [if_pos hc] at h
      obtain ⟨k1, z1, rfl, h1⟩ := map_cons (show z.map Prod.fst = 39 :: _ from h)
      obtain ⟨k2, z2, rfl, h2⟩ := map_cons (show z1.map Prod.fst = 92 :: _ from h1)
      obtain ⟨k3, z3, rfl, h3⟩ := map_cons (show z2.map Prod.fst = 39 :: _ from h2)
      obtain ⟨k4, z4, rfl, h4⟩ := map_cons (show z3.map Prod.fst = 39 :: _ from h3)
      obtain ⟨z', e1, e2, e3⟩ := read_in l z4 (out ++ [39]) rest h4 ha.tail.tail.tail.tail
      refine ⟨z', e1, e2, ?_⟩
      have n2 := asc_ne ha.tail (.inr (.inr rfl))
      have n4 := asc_ne ha.tail.tail.tail (.inl rfl)
      rw [shF, if_neg (by decide), if_pos rfl, if_pos rfl, shF, if_pos rfl, if_neg n2, if_pos ⟨rfl, rfl⟩, List.drop_one, List.tail_cons, shF, if_pos rfl, if_neg n4, if_neg (fun h => n39_92 h.1), if_neg (fun h => n39_36 h.1), if_pos rfl, e3, hc, List.append_assoc]
      rfl
    · rw [if_neg hc] at h
      obtain ⟨k1, z1, rfl, h1⟩ := map_cons (show z.map Prod.fst = c :: _ from h)
      obtain ⟨z', e1, e2, e3⟩ := read_in l z1 (out ++ [c]) rest h1 ha.tail
      refine ⟨z', e1, e2, ?_⟩
      rw [shF, if_neg (by decide), if_pos rfl, if_neg hc, e3, List.append_assoc]
      rfl
theorem read_quoted (l : List UInt8) (z : List (UInt8 × Int)) (out rest : List UInt8) (h : z.map Prod.fst = quotedL l ++ rest) (ha : Asc z) : ∃ z', z'.map Prod.fst = rest ∧ Asc z' ∧ shF 0 z out = shF 0 z' (out ++ l) := by
  unfold quotedL at h
  obtain ⟨k1, z1, rfl, h1⟩ := map_cons (show z.map Prod.fst = 39 :: (l.flatMap q1 ++ 39 :: rest) from by rw [h]; simp)
  obtain ⟨z', e1, e2, e3⟩ := read_in l z1 out rest h1 ha.tail
  refine ⟨z', e1, e2, ?_⟩
  rw [shF, if_pos rfl, if_neg (asc_ne ha (.inl rfl)), if_neg (fun h => n39_92 h.1), if_neg (fun h => n39_36 h.1), if_pos rfl, e3]
theorem un_esc (c : UInt8) (rest : List UInt8) : ∃ e, escL c = 92 :: e ∧ unL (e ++ rest) = (c, e.length) ∧ e.length ≠ 0 ∧ e.head? ≠ some 34 ∧ e.head? ≠ some 92 := by
  by_cases h1 : c = 10
  · exact ⟨[110], by rw [escL, if_pos h1], by rw [h1]; rfl, by decide, by decide, by decide⟩
  by_cases h2 : c = 9
  · exact ⟨[116], by rw [escL, if_neg h1, if_pos h2], by rw [h2]; rfl, by decide, by decide, by decide⟩
  have fin : ∀ d : Fin 256, (48 ≤ 48 + d.val.toUInt8 / 64 ∧ 48 + d.val.toUInt8 / 64 ≤ 51 ∧ 48 ≤ 48 + (d.val.toUInt8 / 8) % 8 ∧ 48 + (d.val.toUInt8 / 8) % 8 ≤ 55 ∧ 48 ≤ 48 + d.val.toUInt8 % 8 ∧ 48 + d.val.toUInt8 % 8 ≤ 55) ∧ (48 + d.val.toUInt8 / 64 - 48) * 64 + (48 + (d.val.toUInt8 / 8) % 8 - 48) * 8 + (48 + d.val.toUInt8 % 8 - 48) = d.val.toUInt8 := by decide +kernel
  have hf := fin ⟨c.toNat, UInt8.toNat_lt _⟩
  simp only [Nat.toUInt8_eq, UInt8.ofNat_toNat] at hf
  obtain ⟨hr, hv⟩ := hf
  have n1 : ¬ some (48 + c / 64) = some (110 : UInt8) := by intro h; have h' := Option.some.inj h; rw [h'] at hr; exact absurd hr.2.1 (by decide)
  have n2 : ¬ some (48 + c / 64) = some (116 : UInt8) := by intro h; have h' := Option.some.inj h; rw [h'] at hr; exact absurd hr.2.1 (by decide)
  have n3 : ¬ some (48 + c / 64) = some (34 : UInt8) := by intro h; have h' := Option.some.inj h; rw [h'] at hr; exact absurd hr.1 (by decide)
  have n4 : ¬ some (48 + c / 64) = some (92 : UInt8) := by intro h; have h' := Option.some.inj h; rw [h'] at hr; exact absurd hr.2.1 (by decide)
  refine ⟨[48 + c / 64, 48 + (c / 8) % 8, 48 + c % 8], by rw [escL, if_neg h1, if_neg h2], ?_, by simp, n3, n4⟩
  show unL ((48 + c / 64) :: (48 + (c / 8) % 8) :: (48 + c % 8) :: rest) = _
  rw [unL, if_neg (show ¬ List.head? ((48 + c / 64) :: _) = some 110 from n1), if_neg (show ¬ List.head? ((48 + c / 64) :: _) = some 116 from n2), octL, if_pos hr, hv]
  rfl
theorem map_app {z : List (UInt8 × Int)} : ∀ {e l : List UInt8}, z.map Prod.fst = e ++ l → (z.drop e.length).map Prod.fst = l := by
  intro e l h
  rw [List.map_drop, h]
  simp
theorem read_esc : ∀ (l : List UInt8) (z : List (UInt8 × Int)) (out rest : List UInt8), z.map Prod.fst = l.flatMap escL ++ 39 :: rest → Asc z → ∃ z', z'.map Prod.fst = rest ∧ Asc z' ∧ shF 2 z out = shF 0 z' (out ++ l)
  | [], z, out, rest, h, ha => by
    obtain ⟨k, z', rfl, hz⟩ := map_cons (by simpa using h)
    refine ⟨z', hz, ha.tail, ?_⟩
    rw [shF, if_neg (by decide), if_neg (by decide), if_pos rfl, List.append_nil]
  | c :: l, z, out, rest, h, ha => by
    obtain ⟨e, h1, h2, h3, _, _⟩ := un_esc c (l.flatMap escL ++ 39 :: rest)
    rw [List.flatMap_cons, h1] at h
    obtain ⟨k1, z1, rfl, h4⟩ := map_cons (show z.map Prod.fst = 92 :: (e ++ (l.flatMap escL ++ 39 :: rest)) from by rw [h]; simp)
    have h5 := map_app h4
    have ha2 : Asc (z1.drop e.length) := fun q hq => ha.tail q (List.mem_of_mem_drop hq)
    obtain ⟨z', e1, e2, e3⟩ := read_esc l (z1.drop e.length) (out ++ [c]) rest h5 ha2
    refine ⟨z', e1, e2, ?_⟩
    rw [shF, if_neg (by decide), if_neg (by decide), if_neg n92_39, if_pos rfl, h4, h2]
    rw [if_neg h3, e3, List.append_assoc]
    rfl
/-- What stands between, written. -/
def encK (k : Int) (u : List UInt8) : List UInt8 := if k = 2 then u.flatMap escL else u
theorem read_flush (k : Int) (u : List UInt8) (z : List (UInt8 × Int)) (out rest : List UInt8) (h : z.map Prod.fst = flush k (encK k u) ++ rest) (ha : Asc z) : ∃ z', z'.map Prod.fst = rest ∧ Asc z' ∧ shF 0 z out = shF 0 z' (out ++ u) := by
  unfold flush encK at h
  by_cases hk : k = 2
  · rw [if_pos hk, if_pos hk] at h
    obtain ⟨k1, z1, rfl, h1⟩ := map_cons (show z.map Prod.fst = 36 :: 39 :: (u.flatMap escL ++ 39 :: rest) from by rw [h]; simp)
    obtain ⟨k2, z2, rfl, h2⟩ := map_cons (show z1.map Prod.fst = 39 :: _ from h1)
    obtain ⟨z', e1, e2, e3⟩ := read_esc u z2 out rest h2 ha.tail.tail
    refine ⟨z', e1, e2, ?_⟩
    rw [shF, if_pos rfl, if_neg (asc_ne ha (.inr (.inl rfl))), if_neg (fun h => n36_92 h.1), if_pos ⟨rfl, rfl⟩, List.drop_one, List.tail_cons, e3]
  · rw [if_neg hk, if_neg hk] at h
    exact read_quoted u z out rest h ha
theorem enc_snoc (p : UInt8 × Int) (u : List UInt8) : encK p.2 u ++ e1 p = encK p.2 (u ++ [p.1]) := by
  unfold encK e1
  by_cases hk : p.2 = 2
  · rw [if_pos hk, if_pos hk, if_pos hk, List.flatMap_append]
    simp
  · rw [if_neg hk, if_neg hk, if_neg hk]
theorem read_st : ∀ (y : List (UInt8 × Int)) (u : List UInt8) (part : List UInt8) (z : List (UInt8 × Int)) (out : List UInt8), (∀ p r, y = p :: r → part = encK p.2 u) → (y = [] → u = []) → z.map Prod.fst = stR part y → Asc z → shF 0 z out = some (out ++ u ++ y.map Prod.fst)
  | [], u, part, z, out, h1, h2, h, ha => by
    rw [stR] at h
    obtain rfl : z = [] := List.map_eq_nil_iff.1 h
    rw [shF, if_pos rfl, h2 rfl]
    simp
  | p :: r, u, part, z, out, h1, h2, h, ha => by
    rw [stR, h1 p r rfl, enc_snoc] at h
    by_cases hb : brk p.2 r = true
    · rw [if_pos hb] at h
      obtain ⟨z', e1, e2, e3⟩ := read_flush p.2 (u ++ [p.1]) z out _ h ha
      have := read_st r [] [] z' (out ++ (u ++ [p.1])) (fun q r' _ => by unfold encK; split <;> rfl) (fun _ => rfl) e1 e2
      rw [e3, this]
      simp
    · rw [if_neg hb] at h
      have hr : ∀ q r', r = q :: r' → encK p.2 (u ++ [p.1]) = encK q.2 (u ++ [p.1]) := by
        rintro q r' rfl
        have hq : (q.2 == 2) = (p.2 == 2) := by simpa [brk] using hb
        unfold encK
        by_cases hk : p.2 = 2
        · rw [hk] at hq
          rw [if_pos hk, if_pos (by simpa using hq)]
        · rw [if_neg hk, if_neg (fun h => hk (by rw [h] at hq; simpa using hq.symm))]
      have := read_st r (u ++ [p.1]) (encK p.2 (u ++ [p.1])) z out hr (fun e => by rw [e] at hb; simp [brk] at hb) h ha
      rw [this]
      simp
theorem read_plain : ∀ (z : List (UInt8 × Int)) (out : List UInt8), (∀ p ∈ z, p.2 = 1) → shF 0 z out = some (out ++ z.map Prod.fst)
  | [], out, _ => by rw [shF, if_pos rfl]; simp
  | p :: z, out, h => by
    rw [shF, if_pos rfl, if_pos (h p (by simp)), read_plain z _ (fun q hq => h q (List.mem_cons_of_mem _ hq))]
    simp
set_option maxRecDepth 100000 in
theorem decN_hi (n b0 b1 b2 b3 : Nat) (h : 1 < (decodeN n b0 b1 b2 b3).2) : 128 ≤ b0 ∧ (1 < (decodeN n b0 b1 b2 b3).2 → 128 ≤ b1) ∧ (2 < (decodeN n b0 b1 b2 b3).2 → 128 ≤ b2) ∧ (3 < (decodeN n b0 b1 b2 b3).2 → 128 ≤ b3) := by
  unfold decodeN at h ⊢
  repeat' split at h
  all_goals (repeat' split)
  all_goals first | (simp at h; done) | (simp only; omega) | (exfalso; omega)
theorem decN_low (n b0 b1 b2 b3 : Nat) (h : b0 < 128) : decodeN n b0 b1 b2 b3 = (b0, 1) := by
  unfold decodeN
  rw [if_pos h]
theorem dec_low (l : List UInt8) (h : g0 l 0 < 128) : decL l = (g0 l 0, 1) := decN_low _ _ _ _ _ h
theorem tok_hi (l : List UInt8) (h : 1 < (decL l).2) (j : Nat) (hj : j < (decL l).2) : 128 ≤ g0 l j := by
  have h4 := dec_le4 l
  have hh := decN_hi l.length (g0 l 0) (g0 l 1) (g0 l 2) (g0 l 3) h
  have hd : decodeN l.length (g0 l 0) (g0 l 1) (g0 l 2) (g0 l 3) = decL l := rfl
  rw [hd] at hh
  obtain ⟨h0, h1, h2, h3⟩ := hh
  match j, hj with
  | 0, _ => exact h0
  | 1, hj => exact h1 hj
  | 2, hj => exact h2 hj
  | 3, hj => exact h3 hj
  | j + 4, hj => omega
theorem asc_kinds : ∀ (m : Nat) (l : List UInt8), l.length ≤ m → Asc (l.zip (kindsL m l))
  | 0, l, h => by
    obtain rfl : l = [] := List.eq_nil_of_length_eq_zero (by omega)
    intro p hp
    cases hp
  | m + 1, l, h => by
    by_cases hl : l = []
    · rw [hl]
      intro p hp
      cases hp
    · have h1 := dec_ge l
      have h2 := dec_len l hl
      rw [kindsL, if_neg hl]
      have hsp : l = l.take (decL l).2 ++ l.drop (decL l).2 := (List.take_append_drop _ _).symm
      have hz : l.zip (List.replicate (decL l).2 (tokK l) ++ kindsL m (l.drop (decL l).2)) = (l.take (decL l).2).zip (List.replicate (decL l).2 (tokK l)) ++ (l.drop (decL l).2).zip (kindsL m (l.drop (decL l).2)) := by
        conv => lhs; rw [hsp]
        rw [List.take_append_drop] 
        rw [← List.zip_append (by rw [List.length_take, List.length_replicate]; omega), List.take_append_drop]
      rw [hz]
      intro p hp
      rcases List.mem_append.1 hp with hp | hp
      · obtain ⟨j, hj, rfl⟩ := List.getElem_of_mem hp
        rw [List.length_zip, List.length_take, List.length_replicate] at hj
        rw [List.getElem_zip, List.getElem_take, List.getElem_replicate]
        intro hlt
        have hjl : j < l.length := by omega
        have hg : g0 l j = (l[j]'hjl).toNat := by unfold g0; rw [getD_at l j hjl]
        by_cases hn : 1 < (decL l).2
        · have := tok_hi l hn j (by omega)
          rw [hg] at this
          exact absurd hlt (by show ¬ (l[j]'hjl).toNat < 128; omega)
        · obtain rfl : j = 0 := by omega
          have hlt' : g0 l 0 < 128 := by rw [hg]; exact hlt
          have hd := dec_low l hlt'
          show tokK l = ascK (l[0]'hjl).toNat
          rw [tokK_of hd, if_neg (by omega), if_pos rfl, hg]
      · exact asc_kinds m _ (by rw [List.length_drop]; omega) p hp
theorem asc_zL (s : ByteArray) : Asc (zL s (kL s)) := by
  unfold zL kL
  exact asc_kinds s.size (bl s) (by rw [len_list]; exact Nat.le_refl _)
theorem zL_fst (s : ByteArray) : (zL s (kL s)).map Prod.fst = bl s := by
  unfold zL
  rw [List.map_fst_zip]
  rw [len_list, kL_len]; exact Nat.le_refl _
/-- What is quoted for a shell is read as it was. -/
theorem shell_back (style : Int) (s : ByteArray) (hst : style = 1 ∨ style = 2 ∨ style = 3) (t : ByteArray) (ht : bl t = quoteL style s (kL s)) : shF 0 (zL t (kL t)) [] = some (bl s) := by
  have ha := asc_zL t
  have hz := zL_fst t
  have quoted : quoteL style s (kL s) = quotedL (bl s) → shF 0 (zL t (kL t)) [] = some (bl s) := by
    intro e
    rw [ht, e] at hz
    obtain ⟨z', e1, e2, e3⟩ := read_quoted (bl s) _ [] [] (by rw [hz, List.append_nil]) ha
    obtain rfl : z' = [] := List.map_eq_nil_iff.1 e1
    rw [e3, shF, if_pos rfl, List.nil_append]
  by_cases h2 : style = 2
  · refine quoted ?_
    unfold quoteL
    rw [if_neg (by omega), if_neg (by omega), if_neg (by omega), if_pos h2]
  · have h13 : style = 1 ∨ style = 3 := by omega
    have hq : quoteL style s (kL s) = if allP (kL s) = true then bl s else if style = 3 ∧ someH (kL s) = true then stR [] (zL s (kL s)) else quotedL (bl s) := by
      unfold quoteL
      rw [if_neg (by omega), if_neg (by omega), if_neg (by omega), if_neg h2, if_pos h13]
    by_cases hp : allP (kL s) = true
    · rw [hq, if_pos hp] at ht
      have ets : t = s := by rw [← B_bl t, ht, B_bl]
      rw [ets]
      unfold allP at hp
      rw [Bool.and_eq_true, List.all_eq_true] at hp
      rw [read_plain _ _ (fun p hp' => ?_), zL_fst, List.nil_append]
      have hm : p.2 ∈ kL s := by
        unfold zL at hp'
        exact (List.of_mem_zip hp').2
      simpa using hp.2 p.2 hm
    · by_cases h3 : style = 3 ∧ someH (kL s) = true
      · have e : quoteL style s (kL s) = stR [] (zL s (kL s)) := by rw [hq, if_neg hp, if_pos h3]
        rw [ht, e] at hz
        rw [read_st (zL s (kL s)) [] [] _ [] (fun q r' _ => by unfold encK; split <;> rfl) (fun _ => rfl) hz ha, zL_fst]
        rfl
      · exact quoted (by rw [hq, if_neg hp, if_neg h3])
/-! ### C -/
def cEsc (r : List UInt8) : UInt8 × Nat := if r.head? = some 34 then (34, 1) else if r.head? = some 92 then (92, 1) else unL r
/-- What C reads between the two ". -/
def cF (l out : List UInt8) : Option (List UInt8) :=
  match l with
  | [] => some out
  | c :: r => if c = 34 then none else if c = 92 then (if (cEsc r).2 = 0 then none else cF (r.drop (cEsc r).2) (out ++ [(cEsc r).1])) else cF r (out ++ [c])
termination_by l.length
decreasing_by all_goals (simp only [List.length_cons, List.length_drop]; omega)
theorem c_back : ∀ (z : List (UInt8 × Int)) (out : List UInt8), cF (inCL [34, 92] z) out = some (out ++ z.map Prod.fst)
  | [], out => by
    show cF [] out = _
    rw [cF]; simp
  | p :: z, out => by
    have ih := c_back z (out ++ [p.1])
    show cF (c1 [34, 92] p ++ inCL [34, 92] z) out = _
    have fin : some (out ++ [p.1] ++ z.map Prod.fst) = some (out ++ (p :: z).map Prod.fst) := by simp
    rw [fin] at ih
    unfold c1
    by_cases h2 : p.2 = 2
    · rw [if_pos h2]
      obtain ⟨e, h3, h4, h5, h6, h7⟩ := un_esc p.1 (inCL [34, 92] z)
      have hne : e ≠ [] := fun h => h5 (by rw [h]; rfl)
      have hh : (e ++ inCL [34, 92] z).head? = e.head? := by
        cases e with
        | nil => exact absurd rfl hne
        | cons a e => rfl
      rw [h3]
      show cF (92 :: (e ++ inCL [34, 92] z)) out = _
      have hc : cEsc (e ++ inCL [34, 92] z) = (p.1, e.length) := by unfold cEsc; rw [hh, if_neg h6, if_neg h7, h4]
      rw [cF, if_neg (by decide), if_pos rfl, hc, if_neg h5]
      show cF ((e ++ inCL [34, 92] z).drop e.length) (out ++ [p.1]) = _
      rw [List.drop_left, ih]
    · rw [if_neg h2]
      by_cases hm : p.1 ∈ [34, 92]
      · rw [if_pos hm]
        show cF (92 :: p.1 :: inCL [34, 92] z) out = _
        have hc : cEsc (p.1 :: inCL [34, 92] z) = (p.1, 1) := by
          unfold cEsc
          rcases List.mem_cons.1 hm with h | h
          · rw [h]; rfl
          · rw [List.mem_singleton.1 h]; rfl
        rw [cF, if_neg (by decide), if_pos rfl, hc, if_neg (show ¬ (1 : Nat) = 0 by decide)]
        exact ih
      · rw [if_neg hm]
        show cF (p.1 :: inCL [34, 92] z) out = _
        rw [cF, if_neg (fun h => hm (by rw [h]; simp)), if_neg (fun h => hm (by rw [h]; simp)), ih]
/-- Two names that aren't the same are quoted apart. -/
theorem quote_inj (style : Int) (a b : ByteArray) (hst : 1 ≤ style ∧ style ≤ 4) (h : quoteL style a (kL a) = quoteL style b (kL b)) : a = b := by
  have e : bl a = bl b := by
    by_cases h4 : style = 4
    · have q : ∀ s, quoteL style s (kL s) = [34] ++ inCL [34, 92] (zL s (kL s)) ++ [34] := by
        intro s
        unfold quoteL
        rw [if_neg (by omega), if_pos h4]
      rw [q, q] at h
      have h1 : inCL [34, 92] (zL a (kL a)) = inCL [34, 92] (zL b (kL b)) := by
        have := List.append_cancel_right h
        exact List.append_cancel_left this
      have h2 := c_back (zL a (kL a)) []
      have h3 := c_back (zL b (kL b)) []
      rw [h1, h3, zL_fst, zL_fst] at h2
      simpa using h2.symm
    · have h1 := shell_back style a (by omega) (B (quoteL style a (kL a))) rfl
      have h2 := shell_back style b (by omega) (B (quoteL style a (kL a))) h
      rw [h1] at h2
      exact Option.some.inj h2
  rw [← B_bl a, e, B_bl]
end Go.Proofs.YtkhbgfnbkdonlaaDoor.Pure
