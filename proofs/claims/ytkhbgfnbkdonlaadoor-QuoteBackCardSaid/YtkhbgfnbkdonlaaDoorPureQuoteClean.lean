/- P3.3: what is quoted for a terminal holds no byte that does not print. -/
import Derived.Test.YtkhbgfnbkdonlaaDoorPureQuoteStyles
import Derived.Test.YtkhbgfnbkdonlaaDoorQClean
namespace Go.Proofs.YtkhbgfnbkdonlaaDoor.Pure
open Go.RowKit Go.Lib Go.Proofs.YtkhbgfnbkdonlaaDoor.QQuo Go.Proofs.YtkhbgfnbkdonlaaDoorW.PrintWords Go.Proofs.YtkhbgfnbkdonlaaDoorW.PrintLast Go.Proofs.YtkhbgfnbkdonlaaDoorW.PrintMore
set_option linter.unusedVariables false
set_option linter.unusedSimpArgs false

set_option maxRecDepth 100000 in
set_option maxHeartbeats 2000000 in
theorem decodeN_less (n m b0 b1 b2 b3 : Nat) (hm : m ≤ n) (h : (decodeN n b0 b1 b2 b3).2 ≤ m) : decodeN m b0 b1 b2 b3 = decodeN n b0 b1 b2 b3 := by
  unfold decodeN at h ⊢
  repeat' split at h
  all_goals (repeat' split)
  all_goals first | rfl | (exfalso; simp only at h; omega) | (exfalso; omega)
set_option maxRecDepth 100000 in
set_option maxHeartbeats 2000000 in
theorem decodeN_more (n m b0 b1 b2 b3 : Nat) (hm : n ≤ m) (h : ¬ ((decodeN n b0 b1 b2 b3).1 = 65533 ∧ (decodeN n b0 b1 b2 b3).2 ≤ 1)) : decodeN m b0 b1 b2 b3 = decodeN n b0 b1 b2 b3 := by
  unfold decodeN at h ⊢
  repeat' split at h
  all_goals (repeat' split)
  all_goals first | rfl | (exfalso; simp only at h; omega) | (exfalso; omega)
set_option maxRecDepth 100000 in
set_option maxHeartbeats 2000000 in
theorem decodeN_same (m b0 b1 b2 b3 c1 c2 c3 : Nat) (h1 : 1 < m → b1 = c1) (h2 : 2 < m → b2 = c2) (h3 : 3 < m → b3 = c3) : decodeN m b0 b1 b2 b3 = decodeN m b0 c1 c2 c3 := by
  by_cases g1 : 1 < m
  · rw [h1 g1]
    by_cases g2 : 2 < m
    · rw [h2 g2]
      by_cases g3 : 3 < m
      · rw [h3 g3]
      · unfold decodeN
        simp only [show ¬ 3 < m from g3, false_and, and_false, if_false]
    · unfold decodeN
      simp only [show ¬ 3 < m from by omega, g2, false_and, and_false, if_false]
  · unfold decodeN
    simp only [show ¬ 3 < m from by omega, show ¬ 2 < m from by omega, g1, false_and, and_false, if_false]
set_option maxRecDepth 100000 in
set_option maxHeartbeats 2000000 in
theorem decodeN_hi (n b0 b1 b2 b3 : Nat) (h : 2 ≤ (decodeN n b0 b1 b2 b3).2) : 128 ≤ b0 ∧ 128 ≤ b1 ∧ (3 ≤ (decodeN n b0 b1 b2 b3).2 → 128 ≤ b2) ∧ (4 ≤ (decodeN n b0 b1 b2 b3).2 → 128 ≤ b3) := by
  unfold decodeN at h ⊢
  repeat' split at h
  all_goals (repeat' split)
  all_goals first | (exfalso; simp only at h; omega) | (simp only; omega) | omega

/-- A text that is read whole, wherever it stands, and prints. -/
structure Tk (t : List UInt8) : Prop where
  ne : t ≠ []
  len : ∀ rest, (decL (t ++ rest)).2 = t.length
  kind : ∀ rest, tokK (t ++ rest) ≠ 2
  hi : t.length = 1 ∨ ∀ c ∈ t, 128 ≤ c.toNat
/-- Such texts, joined. -/
inductive Cl : List UInt8 → Prop
  | nil : Cl []
  | tok {t rest : List UInt8} (h : Tk t) (hr : Cl rest) : Cl (t ++ rest)
theorem Cl.app {a b : List UInt8} (ha : Cl a) (hb : Cl b) : Cl (a ++ b) := by
  induction ha with
  | nil => exact hb
  | tok h _ ih => rw [List.append_assoc]; exact .tok h ih
theorem Cl.one {t : List UInt8} (h : Tk t) : Cl t := by
  have := Cl.tok h .nil
  rwa [List.append_nil] at this
theorem Cl.kinds {l : List UInt8} (h : Cl l) : ∀ m, ∀ k ∈ kindsL m l, k ≠ 2 := by
  induction h with
  | nil =>
    intro m k hk
    cases m with
    | zero => exact absurd hk (by rw [kindsL]; simp)
    | succ m => rw [kindsL, if_pos rfl] at hk; simp at hk
  | @tok t rest h _ ih =>
    intro m k hk
    cases m with
    | zero => exact absurd hk (by rw [kindsL]; simp)
    | succ m =>
      have hne : ¬ t ++ rest = [] := fun e => h.ne (List.append_eq_nil_iff.1 e).1
      rw [kindsL, if_neg hne, h.len, List.drop_left] at hk
      rcases List.mem_append.1 hk with h1 | h1
      · rw [(List.mem_replicate.1 h1).2]; exact h.kind rest
      · exact ih m k h1
theorem dec_asc (c : UInt8) (rest : List UInt8) (hc : c.toNat < 128) : decL (c :: rest) = (c.toNat, 1) := by
  unfold decL decodeN
  have : g0 (c :: rest) 0 = c.toNat := rfl
  rw [this]
  simp [hc]
/-- A byte below 128 that prints. -/
theorem Tk.asc (c : UInt8) (hc : c.toNat < 128) (hk : ascK c.toNat ≠ 2) : Tk [c] := by
  refine ⟨by simp, fun rest => ?_, fun rest => ?_, .inl rfl⟩
  · show (decL (c :: rest)).2 = 1
    rw [dec_asc c rest hc]
  · show tokK (c :: rest) ≠ 2
    rw [tokK_of (dec_asc c rest hc), if_neg (by omega), if_pos rfl]
    exact hk
theorem ascs {l : List UInt8} (h : ∀ c ∈ l, c.toNat < 128 ∧ ascK c.toNat ≠ 2) : Cl l := by
  induction l with
  | nil => exact .nil
  | cons c l ih => exact Cl.tok (t := [c]) (Tk.asc c (h c (by simp)).1 (h c (by simp)).2) (ih fun d hd => h d (List.mem_cons_of_mem _ hd))
instance (l : List UInt8) : Decidable (∀ c ∈ l, c.toNat < 128 ∧ ascK c.toNat ≠ 2) := inferInstance
theorem ascK_even : ∀ d : Fin 128, decide (ascK d.val = 2) = (decide (d.val < 32) || decide (d.val = 127)) := by decide +kernel
theorem asc_ok (c : UInt8) (h : 32 ≤ c.toNat) (h' : c.toNat < 127) : c.toNat < 128 ∧ ascK c.toNat ≠ 2 := by
  refine ⟨by omega, fun e => ?_⟩
  have := ascK_even ⟨c.toNat, by omega⟩
  simp only [e] at this
  simp at this
  omega
theorem esc_bytes (c : UInt8) : ∀ d ∈ escL c, 48 ≤ d.toNat ∧ d.toNat < 127 := by
  have fin : ∀ d : Fin 256, (escL d.val.toUInt8).all (fun d => decide (48 ≤ d.toNat ∧ d.toNat < 127)) = true := by decide +kernel
  have hf := fin ⟨c.toNat, UInt8.toNat_lt _⟩
  simp only [Nat.toUInt8_eq, UInt8.ofNat_toNat] at hf
  intro d hd
  exact of_decide_eq_true (List.all_eq_true.1 hf d hd)
theorem esc_cl (c : UInt8) : Cl (escL c) := ascs fun d hd => asc_ok d (by have := esc_bytes c d hd; omega) (esc_bytes c d hd).2
theorem lit_cl {l : List UInt8} (h : l.all (fun d => decide (32 ≤ d.toNat ∧ d.toNat < 127)) = true) : Cl l := ascs fun d hd => by
  have := of_decide_eq_true (List.all_eq_true.1 h d hd)
  exact asc_ok d this.1 this.2
theorem q1_id {l : List UInt8} (h : ∀ c ∈ l, c ≠ 39) : l.flatMap q1 = l := flat_id fun e => h 39 e rfl
/-- A text with what its bytes are: a byte that does not print, or a whole that prints. -/
inductive Zs : List (UInt8 × Int) → Prop
  | nil : Zs []
  | hard (c : UInt8) {z : List (UInt8 × Int)} (hz : Zs z) : Zs ((c, 2) :: z)
  | soft {t : List UInt8} {k : Int} {z : List (UInt8 × Int)} (ht : Tk t) (hk : k ≠ 2) (hz : Zs z) : Zs (t.map (fun c => (c, k)) ++ z)
theorem zip_rep (k : Int) : ∀ (t : List UInt8) (l : List UInt8) (K : List Int), (t ++ l).zip (List.replicate t.length k ++ K) = t.map (fun c => (c, k)) ++ l.zip K
  | [], l, K => rfl
  | c :: t, l, K => by
    show (c :: (t ++ l)).zip (List.replicate (t.length + 1) k ++ K) = _
    rw [List.replicate_succ, List.cons_append, List.zip_cons_cons, zip_rep k t l K]
    rfl
theorem g0_app (t rest : List UInt8) (i : Nat) (h : i < t.length) : g0 (t ++ rest) i = g0 t i := by
  unfold g0
  rw [List.getD, List.getD, List.getElem?_append_left h]
theorem g0_take (l : List UInt8) (n i : Nat) (h : i < n) : g0 (l.take n) i = g0 l i := by
  unfold g0
  rw [List.getD, List.getD, List.getElem?_take, if_pos h]
theorem tk_take (l : List UInt8) (hl : l ≠ []) (hk : tokK l ≠ 2) : Tk (l.take (decL l).2) := by
  have h1 := dec_ge l
  have h2 := dec_len l hl
  have h4 := dec_le4 l
  generalize hn : (decL l).2 = n at h1 h2 h4
  have hv : ¬ ((decL l).1 = 65533 ∧ (decL l).2 ≤ 1) := fun e => hk (by unfold tokK; rw [if_pos e])
  have hlen : (l.take n).length = n := by rw [List.length_take]; omega
  have e1 : decodeN n (g0 l 0) (g0 l 1) (g0 l 2) (g0 l 3) = decL l := decodeN_less l.length n _ _ _ _ h2 (by show (decL l).2 ≤ n; omega)
  have hd : ∀ rest, decL (l.take n ++ rest) = decL l := by
    intro rest
    have g : ∀ i, i < n → g0 (l.take n ++ rest) i = g0 l i := fun i hi => by rw [g0_app _ _ _ (by omega), g0_take _ _ _ hi]
    have e2 : decodeN n (g0 (l.take n ++ rest) 0) (g0 (l.take n ++ rest) 1) (g0 (l.take n ++ rest) 2) (g0 (l.take n ++ rest) 3) = decL l := by
      rw [g 0 (by omega), ← e1]
      exact decodeN_same _ _ _ _ _ _ _ _ (fun h => g 1 h) (fun h => g 2 h) (fun h => g 3 h)
    have e3 := decodeN_more n (l.take n ++ rest).length (g0 (l.take n ++ rest) 0) (g0 (l.take n ++ rest) 1) (g0 (l.take n ++ rest) 2) (g0 (l.take n ++ rest) 3) (by rw [List.length_append]; omega) (by rw [e2]; exact hv)
    exact e3.trans e2
  refine ⟨fun e => ?_, fun rest => ?_, fun rest => ?_, ?_⟩
  · rw [e] at hlen; simp at hlen; omega
  · rw [hd, hn, hlen]
  · have hg : g0 (l.take n ++ rest) 0 = g0 l 0 := by rw [g0_app _ _ _ (by omega), g0_take _ _ _ (by omega)]
    unfold tokK at hk ⊢
    rw [hd, hg]
    exact hk
  · by_cases h : n = 1
    · exact .inl (by omega)
    · right
      have hh := decodeN_hi l.length (g0 l 0) (g0 l 1) (g0 l 2) (g0 l 3) (by show 2 ≤ (decL l).2; omega)
      obtain ⟨a0, a1, a2, a3⟩ := hh
      intro c hc
      obtain ⟨i, hi, rfl⟩ := List.getElem_of_mem hc
      have e : (l.take n)[i].toNat = g0 (l.take n) i := by unfold g0; rw [getD_at _ _ hi]
      rw [e, g0_take _ _ _ (by omega)]
      have a2' : 3 ≤ n → 128 ≤ g0 l 2 := fun h => a2 (by show 3 ≤ (decL l).2; omega)
      have a3' : 4 ≤ n → 128 ≤ g0 l 3 := fun h => a3 (by show 4 ≤ (decL l).2; omega)
      have hi' : i < n := by omega
      match i, hi' with
      | 0, _ => exact a0
      | 1, _ => exact a1
      | 2, h => exact a2' (by omega)
      | 3, h => exact a3' (by omega)
      | i + 4, h => omega
theorem zs_of : ∀ (m : Nat) (l : List UInt8), l.length ≤ m → Zs (l.zip (kindsL m l))
  | 0, l, h => by
    obtain rfl : l = [] := List.length_eq_zero_iff.1 (by omega)
    exact .nil
  | m + 1, l, h => by
    by_cases hl : l = []
    · subst hl; exact .nil
    · rw [kindsL, if_neg hl]
      have h1 := dec_ge l
      have h2 := dec_len l hl
      have hz := zs_of m (l.drop (decL l).2) (by rw [List.length_drop]; omega)
      have hlen : (l.take (decL l).2).length = (decL l).2 := by rw [List.length_take]; omega
      have e := zip_rep (tokK l) (l.take (decL l).2) (l.drop (decL l).2) (kindsL m (l.drop (decL l).2))
      rw [hlen, List.take_append_drop] at e
      rw [e]
      by_cases hk : tokK l = 2
      · have hn : (decL l).2 = 1 := by
          have hk' := hk
          unfold tokK at hk'
          split at hk'
          · next g => omega
          · split at hk'
            · next g => exact g
            · exact absurd hk' (by decide)
        rw [hk, hn]
        cases l with
        | nil => exact absurd rfl hl
        | cons c l =>
          rw [hn] at hz
          exact .hard c hz
      · exact .soft (tk_take l hl hk) hk hz
theorem zs_k (s : ByteArray) : Zs (zL s (kL s)) := zs_of s.size (bl s) (by rw [len_list]; exact Nat.le_refl _)
theorem tk_q1 {t : List UInt8} (h : Tk t) : Cl (t.flatMap q1) := by
  rcases h.hi with h1 | h1
  · obtain ⟨c, rfl⟩ := List.length_eq_one_iff.1 h1
    rw [List.flatMap_cons, List.flatMap_nil, List.append_nil, q1]
    split
    · exact lit_cl (by decide)
    · exact Cl.one h
  · rw [q1_id (fun c hc e => by have := h1 c hc; rw [e] at this; exact absurd this (by decide))]
    exact Cl.one h
theorem soft_cl {z : List (UInt8 × Int)} (h : Zs z) (hn : ∀ p ∈ z, p.2 ≠ 2) : Cl (z.map Prod.fst) ∧ Cl ((z.map Prod.fst).flatMap q1) := by
  induction h with
  | nil => exact ⟨.nil, .nil⟩
  | hard c hz ih => exact absurd rfl (hn (c, 2) (by simp))
  | @soft t k z ht hk hz ih =>
    obtain ⟨i1, i2⟩ := ih fun p hp => hn p (List.mem_append.2 (.inr hp))
    have e : (t.map (fun c => (c, k)) ++ z).map Prod.fst = t ++ z.map Prod.fst := by
      rw [List.map_append, List.map_map]
      congr 1
      exact List.map_id' t
    rw [e, List.flatMap_append]
    exact ⟨.tok ht i1, (tk_q1 ht).app i2⟩
theorem quoted_cl {l : List UInt8} (h : Cl (l.flatMap q1)) : Cl (quotedL l) := by
  unfold quotedL
  exact ((lit_cl (l := [39]) (by decide)).app h).app (lit_cl (l := [39]) (by decide))
theorem flush_cl (k : Int) {l : List UInt8} (h : Cl l) (h' : Cl (l.flatMap q1)) : Cl (flush k l) := by
  unfold flush
  split
  · exact ((lit_cl (l := [36, 39]) (by decide)).app h).app (lit_cl (l := [39]) (by decide))
  · exact quoted_cl h'
theorem st_soft (k : Int) (hk : k ≠ 2) (z : List (UInt8 × Int)) : ∀ (t part : List UInt8), t ≠ [] → stR part (t.map (fun c => (c, k)) ++ z) = if brk k z = true then flush k (part ++ t) ++ stR [] z else stR (part ++ t) z
  | [], part, h => absurd rfl h
  | [c], part, h => by
    show stR part ((c, k) :: z) = _
    rw [stR, e1, if_neg (show ¬ ((c, k) : UInt8 × Int).2 = 2 from hk)]
  | c :: d :: t, part, h => by
    have ih := st_soft k hk z (d :: t) (part ++ [c]) (by simp)
    show stR part ((c, k) :: (d, k) :: (t.map (fun c => (c, k)) ++ z)) = _
    rw [stR, e1, if_neg (show ¬ ((c, k) : UInt8 × Int).2 = 2 from hk)]
    have hb : brk ((c, k) : UInt8 × Int).2 ((d, k) :: (t.map (fun c => (c, k)) ++ z)) = false := by
      show ((k == 2) != (k == 2)) = false
      exact bne_self_eq_false _
    rw [if_neg (by rw [hb]; decide)]
    refine Eq.trans ih ?_
    rw [List.append_assoc]
    rfl
theorem st_cl {z : List (UInt8 × Int)} (h : Zs z) : ∀ part, Cl part → Cl (part.flatMap q1) → Cl (stR part z) := by
  induction h with
  | nil => intro part _ _; rw [stR]; exact .nil
  | @hard c z hz ih =>
    intro part h1 h2
    rw [stR, e1, if_pos rfl]
    have a : Cl (part ++ escL c) := h1.app (esc_cl c)
    have b : Cl ((part ++ escL c).flatMap q1) := by
      rw [List.flatMap_append, q1_id (l := escL c) (fun d hd e => by have := esc_bytes c d hd; rw [e] at this; exact absurd this.1 (by decide))]
      exact h2.app (esc_cl c)
    split
    · exact (flush_cl 2 a b).app (ih [] .nil .nil)
    · exact ih _ a b
  | @soft t k z ht hk hz ih =>
    intro part h1 h2
    rw [st_soft k hk z t part ht.ne]
    have a : Cl (part ++ t) := h1.app (Cl.one ht)
    have b : Cl ((part ++ t).flatMap q1) := by
      rw [List.flatMap_append]
      exact h2.app (tk_q1 ht)
    split
    · exact (flush_cl k a b).app (ih [] .nil .nil)
    · exact ih _ a b
theorem in_cl (sg : List UInt8) (hsg : ∀ c ∈ sg, c.toNat < 128) {z : List (UInt8 × Int)} (h : Zs z) : Cl (inCL sg z) := by
  induction h with
  | nil => exact .nil
  | @hard c z hz ih =>
    show Cl (c1 sg (c, 2) ++ inCL sg z)
    rw [c1, if_pos rfl]
    exact (esc_cl c).app ih
  | @soft t k z ht hk hz ih =>
    show Cl ((t.map (fun c => (c, k)) ++ z).flatMap (c1 sg))
    rw [List.flatMap_append]
    refine Cl.app ?_ ih
    rcases ht.hi with h1 | h1
    · obtain ⟨c, rfl⟩ := List.length_eq_one_iff.1 h1
      show Cl (c1 sg (c, k) ++ [])
      rw [List.append_nil, c1, if_neg hk]
      split
      · exact Cl.app (a := [92]) (lit_cl (by decide)) (Cl.one ht)
      · exact Cl.one ht
    · have e : (t.map (fun c => (c, k))).flatMap (c1 sg) = t := by
        clear ht ih
        induction t with
        | nil => rfl
        | cons c t iht =>
          rw [List.map_cons, List.flatMap_cons, iht (fun d hd => h1 d (List.mem_cons_of_mem _ hd)), c1, if_neg hk, if_neg (fun hm => by have a := hsg _ hm; have b := h1 c (by simp); simp only at a; omega)]
          rfl
      rw [e]
      exact Cl.one ht
theorem z_map (s : ByteArray) : (zL s (kL s)).map Prod.fst = bl s := by
  unfold zL
  rw [List.map_fst_zip]
  rw [kL_len, len_list]
  exact Nat.le_refl _
theorem z_kind (s : ByteArray) {k : Int} (h : ∀ x ∈ kL s, x ≠ k) : ∀ p ∈ zL s (kL s), p.2 ≠ k := fun p hp => h p.2 (List.of_mem_zip hp).2
theorem quote_clean (style : Int) (s : ByteArray) (h : style = 3 ∨ style = 4 ∨ style = 5) : Cl (quoteL style s (kL s)) := by
  unfold quoteL
  rw [if_neg (by omega)]
  split
  · exact ((lit_cl (l := [34]) (by decide)).app (in_cl _ (by decide) (zs_k s))).app (lit_cl (l := [34]) (by decide))
  split
  · exact in_cl _ (by decide) (zs_k s)
  split
  · omega
  split
  · split
    · next hp =>
      have hp' : ∀ x ∈ kL s, x = 1 := by
        unfold allP at hp
        simp at hp
        exact hp.2
      have := (soft_cl (zs_k s) (z_kind s fun x hx => by rw [hp' x hx]; decide)).1
      rwa [z_map] at this
    split
    · exact st_cl (zs_k s) [] .nil .nil
    · next hn =>
      have hn' : ∀ x ∈ kL s, x ≠ 2 := by
        intro x hx e
        apply hn
        refine ⟨by omega, ?_⟩
        unfold someH
        exact List.any_eq_true.2 ⟨x, hx, by rw [e]; rfl⟩
      have := (soft_cl (zs_k s) (z_kind s hn')).2
      rw [z_map] at this
      exact quoted_cl this
  · exact .nil
theorem quoteL_len (style : Int) (s : ByteArray) : (quoteL style s (kL s)).length ≤ 24 * s.size + 10 := by
  have hz : (zL s (kL s)).length = s.size := z_len s _ (kL_len s)
  have hb : (bl s).length = s.size := len_list s
  have a := inCL_len [34, 92] (zL s (kL s))
  have b := inCL_len [32, 92] (zL s (kL s))
  have c := quotedL_len (bl s)
  have d := stR_len (zL s (kL s)) []
  have l0 : ([] : List UInt8).length = 0 := rfl
  unfold quoteL
  split
  · omega
  split
  · simp only [List.length_append, List.length_cons, List.length_nil]; omega
  split
  · omega
  split
  · omega
  split
  · split
    · omega
    split <;> omega
  · simp
theorem clean_l1 (a : ByteArray) (s : Int) (K : List Int) (hK : ∀ k ∈ K, k ≠ 2) (hl : K.length ≤ 1000000) (r : Bool) (h : Ev (fun k => domesdaylaw03_QuoteClean.l0 k a (wrap64 (s + 1))) r) : ∀ (d i : Nat), i + d = K.length → Ev (fun k => domesdaylaw03_QuoteClean.l1 k a s K (i : Int)) r
  | 0, i, hi => Ev.step (f := fun k => domesdaylaw03_QuoteClean.l0 k a (wrap64 (s + 1))) (fun k => by rw [domesdaylaw03_QuoteClean.l1, if_neg (by omega)]) h
  | d + 1, i, hi => by
    have hne : ¬ rd K (i : Int) = 2 := by rw [rd_at K i (by omega)]; exact hK _ (List.getElem_mem _)
    refine Ev.step (f := fun k => domesdaylaw03_QuoteClean.l1 k a s K (wrap64 ((i : Int) + 1))) (fun k => by rw [domesdaylaw03_QuoteClean.l1, if_pos (by omega), if_pos (by omega), if_neg hne]) ?_
    rw [wrap_id _ (by omega) (by omega)]
    exact clean_l1 a s K hK hl r h d (i + 1) (by omega)
theorem clean_l0 (a : ByteArray) (ha : a.size ≤ 200) : ∀ (n : Nat) (s : Int), 3 ≤ s → s + n = 6 → Ev (fun k => domesdaylaw03_QuoteClean.l0 k a s) true
  | 0, s, h1, h2 => Ev.step (f := fun k => some true) (fun k => by rw [domesdaylaw03_QuoteClean.l0, if_neg (by omega)]) (Ev.now true)
  | n + 1, s, h1, h2 => by
    have hq := quoteL_len s a
    have hs : (B (quoteL s a (kL a))).size ≤ 100000 := by rw [B_size]; omega
    have hlen := kL_len (B (quoteL s a (kL a)))
    refine Ev.step (f := fun k => (quote_Quote.f k s a).bind fun t146 => ((domesdayref03_Kinds.f k t146).bind fun t147 => (domesdaylaw03_QuoteClean.l1 k a s t147 0))) (fun k => by rw [domesdaylaw03_QuoteClean.l0, if_pos (by omega)]) ?_
    refine Ev.bind (f := fun k t146 => ((domesdayref03_Kinds.f k t146).bind fun t147 => (domesdaylaw03_QuoteClean.l1 k a s t147 0))) (quote_ev s a (by omega)) ?_
    refine Ev.bind (f := fun k t147 => (domesdaylaw03_QuoteClean.l1 k a s t147 0)) (rkinds_ev _ hs) ?_
    have hcl := (quote_clean s a (by omega)).kinds (B (quoteL s a (kL a))).size
    refine clean_l1 a s (kL (B (quoteL s a (kL a)))) hcl (by omega) true ?_ (kL (B (quoteL s a (kL a)))).length 0 (by omega)
    rw [wrap_id _ (by omega) (by omega)]
    exact clean_l0 a ha n (s + 1) (by omega) (by omega)
theorem QuoteClean (a0 : ByteArray) : ∃ k, domesdaylaw03_QuoteClean.f k a0 = some true := by
  refine Ev.rounds ?_
  refine Ev.bind (f := fun k t144 => (if t144 = true then (domesdaylaw03_QuoteClean.j0 k a0 (decide ((a0.size : Int) > 200))) else (domesdaylaw03_QuoteClean.j0 k a0 true))) awake_ev ?_
  refine Ev.congr (f := fun k => domesdaylaw03_QuoteClean.j0 k a0 (decide ((a0.size : Int) > 200))) (fun k => by rw [if_pos rfl]) ?_
  by_cases h : (a0.size : Int) > 200
  · rw [decide_eq_true h]
    exact Ev.step (f := fun k => (domesdaylaw03_awake.f k).bind fun t => some t) (fun k => by rw [domesdaylaw03_QuoteClean.j0, if_pos rfl]) (Ev.bind (f := fun _ t => some t) awake_ev (Ev.now true))
  · rw [decide_eq_false h]
    refine Ev.step (f := fun k => domesdaylaw03_QuoteClean.l0 k a0 3) (fun k => by rw [domesdaylaw03_QuoteClean.j0, if_neg (by decide)]) ?_
    exact clean_l0 a0 (by omega) 3 3 (by omega) (by omega)
end Go.Proofs.YtkhbgfnbkdonlaaDoor.Pure
