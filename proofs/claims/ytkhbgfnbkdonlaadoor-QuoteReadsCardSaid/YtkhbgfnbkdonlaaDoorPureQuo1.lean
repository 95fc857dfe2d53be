/- The plain laws of quote: names in quotes, by the program and by the document. -/
import Derived.Test.YtkhbgfnbkdonlaaDoorPureQuo0
import Derived.Test.YtkhbgfnbkdonlaaDoorQQuoR2
namespace Go.Proofs.YtkhbgfnbkdonlaaDoor.Pure
open Go.RowKit Go.Lib Go.Proofs.YtkhbgfnbkdonlaaDoor.QQuo Go.Proofs.YtkhbgfnbkdonlaaDoorW.PrintWords Go.Proofs.YtkhbgfnbkdonlaaDoorW.PrintLast Go.Proofs.YtkhbgfnbkdonlaaDoorW.PrintMore
set_option linter.unusedVariables false
set_option linter.unusedSimpArgs false

/-- A text of bytes. -/
abbrev B (l : List UInt8) : ByteArray := ⟨l.toArray⟩
theorem bl_B (l : List UInt8) : bl (B l) = l := rfl
theorem B_bl (s : ByteArray) : B (bl s) = s := by
  show (⟨s.data.toList.toArray⟩ : ByteArray) = s
  rw [Array.toArray_toList]
theorem B_app (a b : List UInt8) : B a ++ B b = B (a ++ b) := by
  have h : (B a ++ B b).data = (B (a ++ b)).data := by
    rw [ByteArray.data_append]
    simp
  cases h1 : B a ++ B b with
  | mk d => rw [h1] at h; simp only at h; rw [h]
theorem B_size (l : List UInt8) : (B l).size = l.length := by show l.toArray.size = _; simp
theorem ext_eq (s : ByteArray) (i j : Nat) : s.extract i j = B (((bl s).drop i).take (j - i)) := by
  rw [← B_bl (s.extract i j)]
  unfold bl
  rw [Lib.extract_data]
theorem getD_at (l : List UInt8) (i : Nat) (h : i < l.length) : l.getD i 0 = l[i] := by rw [List.getD, List.getElem?_eq_getElem h]; rfl
theorem ext_one (s : ByteArray) (i : Nat) (h : i < s.size) : s.extract i (i + 1) = B [ub s i] := by
  rw [ext_eq, show i + 1 - i = 1 from by omega]
  have h' : i < (bl s).length := by rw [len_list]; exact h
  rw [List.drop_eq_getElem_cons h']
  unfold ub
  have h2 : (bl s).getD i 0 = (bl s)[i] := getD_at _ _ h'
  show B (List.take 1 ((bl s)[i] :: _)) = B [(bl s).getD i 0]
  rw [h2]
  rfl
theorem bt_ub (s : ByteArray) (i : Nat) (h : i < s.size) : bt s (i : Int) = ((ub s i).toNat : Int) := bt_list s i h
/-! ### a hard byte's escape -/
def escL (c : UInt8) : List UInt8 := if c = 10 then [92, 110] else if c = 9 then [92, 116] else [92, 48 + c / 64, 48 + (c / 8) % 8, 48 + c % 8]
theorem escL_len (c : UInt8) : (escL c).length ≤ 4 := by
  unfold escL
  split
  · decide
  · split
    · decide
    · simp
theorem opt_B {o : Option ByteArray} {l : List UInt8} (h : o.map (fun x => x.data.toList) = some l) : o = some (B l) := by
  cases o with
  | none => cases h
  | some x => rw [← B_bl x]; exact congrArg some (congrArg B (Option.some.inj h))
theorem escape_f (c : UInt8) : quote_escape.f (c.toNat : Int) = some (B (escL c)) := by
  have : ∀ d : Fin 256, (quote_escape.f (d.val : Int)).map (fun x => x.data.toList) = some (escL d.val.toUInt8) := by decide +kernel
  have h := this ⟨c.toNat, UInt8.toNat_lt _⟩
  simp only [Nat.toUInt8_eq, UInt8.ofNat_toNat] at h
  exact opt_B h
theorem rescape_f (c : UInt8) : domesdayref03_Escape.f (c.toNat : Int) = some (B (escL c)) := by
  have : ∀ d : Fin 256, (domesdayref03_Escape.f (d.val : Int)).map (fun x => x.data.toList) = some (escL d.val.toUInt8) := by decide +kernel
  have h := this ⟨c.toNat, UInt8.toNat_lt _⟩
  simp only [Nat.toUInt8_eq, UInt8.ofNat_toNat] at h
  exact opt_B h
/-! ### between ' -/
def q1 (c : UInt8) : List UInt8 := if c = 39 then [39, 92, 39, 39] else [c]
def quotedL (l : List UInt8) : List UInt8 := [39] ++ l.flatMap q1 ++ [39]
theorem flat_id {l : List UInt8} (h : (39 : UInt8) ∉ l) : l.flatMap q1 = l := by
  induction l with
  | nil => rfl
  | cons c l ih =>
    have hc : c ≠ 39 := fun e => h (by rw [e]; simp)
    have hl : (39 : UInt8) ∉ l := fun e => h (List.mem_cons_of_mem _ e)
    rw [List.flatMap_cons, ih hl, q1, if_neg hc]
    rfl
theorem replaceK_all : ∀ (k : Nat) (l : List UInt8), l.count 39 ≤ k → Lib.replaceK [39] [39, 92, 39, 39] k l = l.flatMap q1
  | 0, l, h => by
    rw [flat_id (List.count_eq_zero.1 (by omega))]
    rfl
  | k + 1, l, h => by
    by_cases hn : Lib.indexByte l 39 = -1
    · rw [Lib.replaceK, Lib.index_one, hn, if_pos (by decide), flat_id]
      intro hm
      obtain ⟨j, hj⟩ := List.getElem?_of_mem hm
      exact Lib.indexByte_none hn j hj
    · have hge := Lib.indexByte_ge l 39
      obtain ⟨i, hi⟩ : ∃ i : Nat, Lib.indexByte l 39 = i := ⟨(Lib.indexByte l 39).toNat, by omega⟩
      obtain ⟨h1, h2⟩ := Lib.indexByte_some hi
      have hlt : i < l.length := (List.getElem?_eq_some_iff.1 h1).1
      have hsp : l = l.take i ++ 39 :: l.drop (i + 1) := by
        rw [List.getElem?_eq_getElem hlt] at h1
        rw [← Option.some.inj h1, ← List.drop_eq_getElem_cons hlt, List.take_append_drop]
      have hno : (39 : UInt8) ∉ l.take i := by
        intro hm
        obtain ⟨j, hj⟩ := List.getElem?_of_mem hm
        have hji : j < i := by
          have := (List.getElem?_eq_some_iff.1 hj).1
          rw [List.length_take] at this
          omega
        rw [List.getElem?_take_of_lt hji] at hj
        exact h2 j hji hj
      have hc : (l.drop (i + 1)).count 39 ≤ k := by
        have : l.count 39 = (l.take i).count 39 + ((l.drop (i + 1)).count 39 + 1) := by
          conv => lhs; rw [hsp]
          rw [List.count_append, List.count_cons_self]
        omega
      rw [Lib.replaceK_hit [39] [39, 92, 39, 39] k l i (by rw [Lib.index_one]; exact hi)]
      rw [show i + [(39 : UInt8)].length = i + 1 from rfl, replaceK_all k _ hc]
      conv => rhs; rw [hsp]
      rw [List.flatMap_append, List.flatMap_cons, flat_id hno, q1, if_pos rfl, List.append_assoc]
theorem q1_len (l : List UInt8) : (l.flatMap q1).length ≤ 4 * l.length := by
  induction l with
  | nil => simp
  | cons c l ih =>
    rw [List.flatMap_cons, List.length_append, List.length_cons]
    have : (q1 c).length ≤ 4 := by unfold q1; split <;> simp
    omega
theorem quotedL_len (l : List UInt8) : (quotedL l).length ≤ 4 * l.length + 2 := by
  have := q1_len l
  unfold quotedL
  simp only [List.length_append, List.length_cons, List.length_nil]
  omega
theorem quoted_f (s : ByteArray) (hs : s.size ≤ 100000) : quote_quoted.f s = some (B (quotedL (bl s))) := by
  unfold quote_quoted.f strings_ReplaceAll.f
  rw [if_pos ⟨by omega, by decide, by decide⟩]
  simp only [Option.bind_some]
  have e : Lib.replaceAll s.data.toList (⟨#[39]⟩ : ByteArray).data.toList (⟨#[39, 92, 39, 39]⟩ : ByteArray).data.toList = (bl s).flatMap q1 := by
    show Lib.replaceAll (bl s) [39] [39, 92, 39, 39] = _
    unfold Lib.replaceAll Lib.replace Lib.replaceNum
    rw [if_neg (by decide), if_pos (.inl (by decide)), Lib.count_one]
    exact replaceK_all _ _ (Nat.le_refl _)
  rw [e]
  have hl := q1_len (bl s)
  rw [len_list] at hl
  have hb : (B ((bl s).flatMap q1)).size = ((bl s).flatMap q1).length := B_size _
  rw [if_pos (by rw [hb]; omega), if_pos (by rw [hb]; omega)]
  congr 1
theorem ub_at (s : ByteArray) (p : Nat) (h : p < s.size) : (bl s).drop p = ub s p :: (bl s).drop (p + 1) := by
  have h' : p < (bl s).length := by rw [len_list]; exact h
  rw [List.drop_eq_getElem_cons h']
  rw [show ub s p = (bl s)[p] from getD_at _ _ h']
theorem ub_eq (s : ByteArray) (p : Nat) (h : p < s.size) (c : Nat) (hc : c < 256) : bt s (p : Int) = (c : Int) ↔ ub s p = c.toUInt8 := by
  rw [bt_ub s p h]
  constructor
  · intro e
    apply UInt8.toNat_inj.1
    have : (ub s p).toNat = c := by omega
    rw [this]
    simp [Nat.mod_eq_of_lt hc]
  · intro e
    rw [e]
    simp [Nat.mod_eq_of_lt hc]
theorem always_l0 (s : ByteArray) (hs : s.size ≤ 100000) : ∀ (d p : Nat) (out : List UInt8), p + d = s.size → out.length ≤ 4 * p + 1 →
    Ev (fun k => domesdayref03_Always.l0 k s (B out) (p : Int)) (B (out ++ ((bl s).drop p).flatMap q1 ++ [39])) := by
  intro d
  induction d with
  | zero =>
    intro p out h ho
    refine Ev.step (f := fun _ => some (B (out ++ ((bl s).drop p).flatMap q1 ++ [39]))) (fun k => ?_) (Ev.now _)
    rw [domesdayref03_Always.l0, if_neg (by omega), if_pos (by rw [B_size]; omega), List.drop_eq_nil_of_le (by rw [len_list]; omega)]
    show some (B out ++ B [39]) = _
    rw [B_app]
    simp
  | succ d ih =>
    intro p out h ho
    have hp : p < s.size := by omega
    rw [ub_at s p hp, List.flatMap_cons]
    have e := ub_eq s p hp 39 (by decide)
    by_cases hc : ub s p = 39
    · have hcb : bt s (p : Int) = 39 := e.2 hc
      refine Ev.step (f := fun k => domesdayref03_Always.l0 k s (B (out ++ [39, 92, 39, 39])) ((p + 1 : Nat) : Int)) (fun k => ?_) ?_
      · rw [domesdayref03_Always.l0, if_pos (by omega), if_pos (by omega), if_pos hcb, if_pos (by rw [B_size]; omega), wrap_id _ (by omega) (by omega), ← B_app]
        rfl
      · have := ih (p + 1) (out ++ [39, 92, 39, 39]) (by omega) (by simp; omega)
        rw [q1, if_pos hc]
        simpa [List.append_assoc] using this
    · have hcb : ¬ bt s (p : Int) = 39 := fun h => hc (e.1 h)
      have hx := ext_one s p hp
      refine Ev.step (f := fun k => domesdayref03_Always.l0 k s (B (out ++ [ub s p])) ((p + 1 : Nat) : Int)) (fun k => ?_) ?_
      · rw [domesdayref03_Always.l0, if_pos (by omega), if_pos (by omega), if_neg hcb, wrap_id _ (by omega) (by omega), show (p : Int) + 1 = ((p + 1 : Nat) : Int) from by omega, if_pos (by omega), if_pos (by omega), Int.toNat_natCast, Int.toNat_natCast, hx, if_pos (by rw [B_size, B_size]; simp; omega), B_app]
      · have := ih (p + 1) (out ++ [ub s p]) (by omega) (by simp; omega)
        rw [q1, if_neg hc]
        simpa [List.append_assoc] using this
theorem always_ev (s : ByteArray) (hs : s.size ≤ 100000) : Ev (fun k => domesdayref03_Always.f k s) (B (quotedL (bl s))) := by
  have := always_l0 s hs s.size 0 [39] (by omega) (by simp)
  rw [List.drop_zero] at this
  exact this
/-! ### C's escapes -/
/-- A text's bytes, each with what it is. -/
def zL (s : ByteArray) (K : List Int) : List (UInt8 × Int) := (bl s).zip K
def c1 (sg : List UInt8) (p : UInt8 × Int) : List UInt8 := if p.2 = 2 then escL p.1 else if p.1 ∈ sg then [92, p.1] else [p.1]
def inCL (sg : List UInt8) (z : List (UInt8 × Int)) : List UInt8 := z.flatMap (c1 sg)
theorem z_at (s : ByteArray) (K : List Int) (hK : K.length = s.size) (p : Nat) (h : p < s.size) : (zL s K).drop p = (ub s p, rd K (p : Int)) :: (zL s K).drop (p + 1) := by
  have h' : p < (bl s).length := by rw [len_list]; exact h
  have h2 : p < K.length := by omega
  have h3 : p < (zL s K).length := by unfold zL; rw [List.length_zip]; omega
  rw [List.drop_eq_getElem_cons h3]
  have e : (zL s K)[p]'h3 = ((bl s)[p]'h', K[p]'h2) := List.getElem_zip
  rw [e, show ub s p = (bl s)[p] from getD_at _ _ h']
  congr 2
  unfold rd
  simp [List.getD, h2]
theorem z_len (s : ByteArray) (K : List Int) (hK : K.length = s.size) : (zL s K).length = s.size := by
  unfold zL; rw [List.length_zip, len_list]; omega
theorem c1_len (sg : List UInt8) (p : UInt8 × Int) : (c1 sg p).length ≤ 4 := by
  unfold c1
  split
  · exact escL_len _
  · split <;> simp
theorem sg_index (sg : List UInt8) (c : UInt8) : 0 ≤ Lib.indexByte sg c ↔ c ∈ sg := by
  constructor
  · intro h
    obtain ⟨i, hi⟩ : ∃ i : Nat, Lib.indexByte sg c = i := ⟨(Lib.indexByte sg c).toNat, by omega⟩
    exact List.mem_of_getElem? (Lib.indexByte_some hi).1
  · intro h
    have hge := Lib.indexByte_ge sg c
    by_cases hn : Lib.indexByte sg c = -1
    · obtain ⟨j, hj⟩ := List.getElem?_of_mem h
      exact absurd hj (Lib.indexByte_none hn j)
    · omega
theorem inC_l (s sg : ByteArray) (K : List Int) (hs : s.size ≤ 100000) (hK : K.length = s.size) : ∀ (d p k : Nat) (acc : List UInt8), p + d = s.size → d < k → acc.length ≤ 4 * p →
    quote_inC.l k s sg K p acc = some (acc ++ inCL (bl sg) ((zL s K).drop p)) := by
  intro d
  induction d with
  | zero =>
    intro p k acc h hk ha
    obtain ⟨k, rfl⟩ : ∃ j, k = j + 1 := ⟨k - 1, by omega⟩
    rw [quote_inC.l, if_neg (by omega), List.drop_eq_nil_of_le (by rw [z_len s K hK]; omega)]
    simp [inCL]
  | succ d ih =>
    intro p k acc h hk ha
    obtain ⟨k, rfl⟩ : ∃ j, k = j + 1 := ⟨k - 1, by omega⟩
    have hp : p < s.size := by omega
    rw [quote_inC.l, if_pos hp, if_pos ⟨by omega, by omega⟩, z_at s K hK p hp, inCL, List.flatMap_cons, c1]
    have hl := escL_len (ub s p)
    by_cases h2 : rd K (p : Int) = 2
    · rw [if_pos h2, if_pos h2, escape_f]
      simp only [Option.bind_some]
      rw [if_pos (by rw [B_size]; omega), ih (p + 1) k _ (by omega) (by omega) (by rw [List.length_append]; show acc.length + (escL (ub s p)).length ≤ _; omega)]
      rw [← List.append_assoc]
      rfl
    · rw [if_neg h2, if_neg h2]
      by_cases h3 : ub s p ∈ bl sg
      · rw [if_pos ((sg_index _ _).2 h3), if_pos h3, ih (p + 1) k _ (by omega) (by omega) (by simp; omega), ← List.append_assoc]
        rfl
      · rw [if_neg (fun h => h3 ((sg_index _ _).1 h)), if_neg h3, ih (p + 1) k _ (by omega) (by omega) (by simp; omega), ← List.append_assoc]
        rfl
theorem inC_f (s sg : ByteArray) (K : List Int) (hs : s.size ≤ 100000) (hK : K.length = s.size) : quote_inC.f s sg K = some (B (inCL (bl sg) (zL s K))) := by
  unfold quote_inC.f
  rw [if_pos (by omega), inC_l s sg K hs hK s.size 0 (s.size + 1) [] (by omega) (by omega) (by simp)]
  rfl
theorem inCL_len (sg : List UInt8) (z : List (UInt8 × Int)) : (inCL sg z).length ≤ 4 * z.length := by
  induction z with
  | nil => simp [inCL]
  | cons p z ih =>
    have := c1_len sg p
    unfold inCL at ih ⊢
    rw [List.flatMap_cons, List.length_append, List.length_cons]
    omega
/-! ### stretches -/
def brk (k : Int) : List (UInt8 × Int) → Bool
  | [] => true
  | p :: _ => (p.2 == 2) != (k == 2)
def flush (k : Int) (p : List UInt8) : List UInt8 := if k = 2 then [36, 39] ++ p ++ [39] else quotedL p
def e1 (p : UInt8 × Int) : List UInt8 := if p.2 = 2 then escL p.1 else [p.1]
def stR : List UInt8 → List (UInt8 × Int) → List UInt8
  | _, [] => []
  | part, p :: rest => if brk p.2 rest = true then flush p.2 (part ++ e1 p) ++ stR [] rest else stR (part ++ e1 p) rest
theorem st_run : ∀ (r : List (UInt8 × Int)) (part : List UInt8) (k : Int) (rest : List (UInt8 × Int)), r ≠ [] → (∀ p ∈ r, (p.2 == 2) = (k == 2)) → brk k rest = true →
    stR part (r ++ rest) = flush k (part ++ r.flatMap e1) ++ stR [] rest
  | [], part, k, rest, h, _, _ => absurd rfl h
  | [p], part, k, rest, _, hk, hb => by
    have h1 := hk p (by simp)
    have hbk : brk p.2 rest = true := by
      cases rest with
      | nil => rfl
      | cons q rest => simpa [brk, h1] using hb
    have hf : ∀ l, flush p.2 l = flush k l := by
      intro l
      unfold flush
      by_cases hp : p.2 = 2
      · rw [hp] at h1
        have hk2 : k = 2 := by simpa using h1.symm
        rw [if_pos hp, if_pos hk2]
      · have hk2 : ¬ k = 2 := by
          intro e
          rw [e] at h1
          exact hp (by simpa using h1)
        rw [if_neg hp, if_neg hk2]
    show stR part (p :: rest) = _
    rw [stR, if_pos hbk, hf]
    simp
  | p :: q :: r, part, k, rest, _, hk, hb => by
    have h1 := hk p (by simp)
    have h2 := hk q (by simp)
    have hbk : ¬ brk p.2 (q :: (r ++ rest)) = true := by simp [brk, h1, h2]
    show stR part (p :: (q :: (r ++ rest))) = _
    rw [stR, if_neg hbk]
    have := st_run (q :: r) (part ++ e1 p) k rest (by simp) (fun x hx => hk x (List.mem_cons_of_mem _ hx)) hb
    show stR (part ++ e1 p) ((q :: r) ++ rest) = _
    rw [this, List.flatMap_cons (x := p), List.append_assoc]
theorem e1_len (p : UInt8 × Int) : (e1 p).length ≤ 4 := by
  unfold e1
  split
  · exact escL_len _
  · simp
theorem flush_len (k : Int) (l : List UInt8) : (flush k l).length ≤ 4 * l.length + 3 := by
  unfold flush
  split
  · simp only [List.length_append, List.length_cons, List.length_nil]; omega
  · have := quotedL_len l; omega
theorem stR_len : ∀ (z : List (UInt8 × Int)) (part : List UInt8), (stR part z).length ≤ 4 * part.length + 20 * z.length
  | [], part => by simp [stR]
  | p :: rest, part => by
    have h1 := e1_len p
    rw [stR, List.length_cons]
    split
    · have h2 := flush_len p.2 (part ++ e1 p)
      have h3 := stR_len rest []
      simp only [List.length_append, List.length_nil] at h2 h3 ⊢
      omega
    · have h3 := stR_len rest (part ++ e1 p)
      simp only [List.length_append] at h3
      omega
/-- The hard bytes of a stretch, written. -/
theorem stretch_l2 (s : ByteArray) (K : List Int) (hs : s.size ≤ 100000) (hK : K.length = s.size) (to_ : Nat) (ht : to_ ≤ s.size) (r : ByteArray) : ∀ (d p : Nat) (out : List UInt8), p + d = to_ → out.length ≤ 4000000 + 4 * p →
    Ev (fun k => quote_stretches.l0 k s K (B (out ++ (((bl s).drop p).take d).flatMap escL ++ [39])) (to_ : Int)) r → Ev (fun k => quote_stretches.l2 k s K (B out) (p : Int) (to_ : Int)) r := by
  intro d
  induction d with
  | zero =>
    intro p out h ho hr
    refine Ev.step (f := fun k => quote_stretches.l0 k s K (B (out ++ [39])) (to_ : Int)) (fun k => ?_) (by simpa using hr)
    rw [quote_stretches.l2, if_neg (by omega), if_pos (by rw [B_size]; omega)]
    show quote_stretches.l0 k s K (B out ++ B [39]) _ = _
    rw [B_app, show (p : Int) = (to_ : Int) from by omega]
  | succ d ih =>
    intro p out h ho hr
    have hp : p < s.size := by omega
    have hl := escL_len (ub s p)
    refine Ev.step (f := fun k => quote_stretches.l2 k s K (B (out ++ escL (ub s p))) ((p + 1 : Nat) : Int) (to_ : Int)) (fun k => ?_) (ih (p + 1) _ (by omega) (by simp; omega) ?_)
    · rw [quote_stretches.l2, if_pos (by omega), if_pos (by omega), if_pos (by omega), bt_ub s p hp, escape_f]
      simp only [Option.bind_some]
      rw [if_pos (by rw [B_size, B_size]; omega), B_app, wrap_id _ (by omega) (by omega), show (p : Int) + 1 = ((p + 1 : Nat) : Int) from by omega]
    · rw [ub_at s p hp, List.take_succ_cons, List.flatMap_cons] at hr
      simpa [List.append_assoc] using hr
/-- Where a stretch ends. -/
theorem stretch_l1 (s : ByteArray) (K : List Int) (hs : s.size ≤ 100000) (hK : K.length = s.size) (out : ByteArray) (p : Nat) (hp : p < s.size) (r : ByteArray) : ∀ (d q : Nat), q + d = s.size → p ≤ q →
    (∀ to_, q ≤ to_ → to_ ≤ s.size → (∀ j, q ≤ j → j < to_ → (rd K (j : Int) == 2) = (rd K (p : Int) == 2)) → brk (rd K (p : Int)) ((zL s K).drop to_) = true → Ev (fun k => quote_stretches.j2 k s K out (p : Int) (to_ : Int)) r) →
    Ev (fun k => quote_stretches.l1 k s K out (p : Int) (q : Int)) r := by
  intro d
  induction d with
  | zero =>
    intro q h hpq hj
    obtain rfl : q = s.size := by omega
    refine Ev.step (f := fun k => quote_stretches.j2 k s K out (p : Int) (s.size : Int)) (fun k => ?_) (hj s.size (Nat.le_refl _) (Nat.le_refl _) (fun j h1 h2 => by omega) (by rw [List.drop_eq_nil_of_le (by rw [z_len s K hK]; omega)]; rfl))
    rw [quote_stretches.l1, if_neg (by omega)]
  | succ d ih =>
    intro q h hpq hj
    have hq : q < s.size := by omega
    by_cases he : (rd K (q : Int) == 2) = (rd K (p : Int) == 2)
    · refine Ev.step (f := fun k => quote_stretches.l1 k s K out (p : Int) ((q + 1 : Nat) : Int)) (fun k => ?_) (ih (q + 1) (by omega) (by omega) (fun to_ h1 h2 h3 h4 => hj to_ (by omega) h2 (fun j g1 g2 => ?_) h4))
      · rw [quote_stretches.l1, if_pos (by omega), if_pos (by omega), if_pos (by omega), if_pos (by omega), if_pos (by omega), if_pos (by rw [he]; simp), wrap_id _ (by omega) (by omega), show (q : Int) + 1 = ((q + 1 : Nat) : Int) from by omega]
      · rcases Nat.lt_or_ge q j with g | g
        · exact h3 j (by omega) g2
        · obtain rfl : j = q := by omega
          exact he
    · refine Ev.step (f := fun k => quote_stretches.j2 k s K out (p : Int) (q : Int)) (fun k => ?_) (hj q (Nat.le_refl _) (by omega) (fun j h1 h2 => by omega) ?_)
      · rw [quote_stretches.l1, if_pos (by omega), if_pos (by omega), if_pos (by omega), if_pos (by omega), if_pos (by omega), if_neg (by simpa using he)]
      · rw [z_at s K hK q hq]
        show ((rd K (q : Int) == 2) != (rd K (p : Int) == 2)) = true
        simpa using he
theorem z_get (s : ByteArray) (K : List Int) (hK : K.length = s.size) (p d : Nat) (h : p + d ≤ s.size) : ∀ x ∈ ((zL s K).drop p).take d, ∃ j, p ≤ j ∧ j < p + d ∧ x.2 = rd K (j : Int) := by
  intro x hx
  obtain ⟨j, hj, rfl⟩ := List.getElem_of_mem hx
  rw [List.length_take, List.length_drop, z_len s K hK] at hj
  refine ⟨p + j, by omega, by omega, ?_⟩
  rw [List.getElem_take, List.getElem_drop]
  have h3 : p + j < (zL s K).length := by rw [z_len s K hK]; omega
  have h' : p + j < (bl s).length := by rw [len_list]; omega
  have e : (zL s K)[p + j]'h3 = ((bl s)[p + j]'h', K[p + j]'(by omega)) := List.getElem_zip
  rw [e]
  unfold rd
  have h2 : p + j < K.length := by omega
  simp only [Int.toNat_natCast, List.getD, List.getElem?_eq_getElem h2, Option.getD_some]
theorem z_fst (s : ByteArray) (K : List Int) (hK : K.length = s.size) (p d : Nat) : (((zL s K).drop p).take d).map Prod.fst = ((bl s).drop p).take d := by
  have : (zL s K).map Prod.fst = bl s := by
    unfold zL
    rw [List.map_fst_zip]
    rw [len_list]; omega
  rw [List.map_take, List.map_drop, this]
theorem e1_hard : ∀ r : List (UInt8 × Int), (∀ x ∈ r, x.2 = 2) → r.flatMap e1 = (r.map Prod.fst).flatMap escL
  | [], _ => rfl
  | p :: r, h => by
    rw [List.flatMap_cons, List.map_cons, List.flatMap_cons, e1_hard r (fun x hx => h x (List.mem_cons_of_mem _ hx)), e1, if_pos (h p (by simp))]
theorem e1_soft : ∀ r : List (UInt8 × Int), (∀ x ∈ r, ¬ x.2 = 2) → r.flatMap e1 = r.map Prod.fst
  | [], _ => rfl
  | p :: r, h => by
    rw [List.flatMap_cons, List.map_cons, e1_soft r (fun x hx => h x (List.mem_cons_of_mem _ hx)), e1, if_neg (h p (by simp))]
    rfl
theorem stretch_l0 (s : ByteArray) (K : List Int) (hs : s.size ≤ 100000) (hK : K.length = s.size) : ∀ (m p : Nat) (out : List UInt8), s.size ≤ p + m → p ≤ s.size → out.length ≤ 20 * p →
    Ev (fun k => quote_stretches.l0 k s K (B out) (p : Int)) (B (out ++ stR [] ((zL s K).drop p))) := by
  intro m
  induction m with
  | zero =>
    intro p out h1 h2 h3
    refine Ev.step (f := fun _ => some (B out)) (fun k => ?_) (by rw [List.drop_eq_nil_of_le (by rw [z_len s K hK]; omega), stR, List.append_nil]; exact Ev.now _)
    rw [quote_stretches.l0, if_neg (by omega)]
  | succ m ih =>
    intro p out h1 h2 h3
    by_cases hp : p < s.size
    · refine Ev.step (f := fun k => quote_stretches.l1 k s K (B out) (p : Int) (p : Int)) (fun k => by rw [quote_stretches.l0, if_pos (by omega)]) ?_
      refine stretch_l1 s K hs hK (B out) p hp _ (s.size - p) p (by omega) (Nat.le_refl _) (fun e_ g1 g2 g3 g4 => ?_)
      have hlt : p < e_ := by
        rcases Nat.lt_or_ge p e_ with h | h
        · exact h
        · obtain rfl : e_ = p := by omega
          rw [z_at s K hK e_ hp] at g4
          simp [brk] at g4
      have hsplit : (zL s K).drop p = ((zL s K).drop p).take (e_ - p) ++ (zL s K).drop e_ := by
        conv => lhs; rw [← List.take_append_drop (e_ - p) ((zL s K).drop p)]
        rw [List.drop_drop, show p + (e_ - p) = e_ from by omega]
      have hr : ((zL s K).drop p).take (e_ - p) ≠ [] := by
        intro e
        have := congrArg List.length e
        rw [List.length_take, List.length_drop, z_len s K hK] at this
        simp at this
        omega
      have hall : ∀ x ∈ ((zL s K).drop p).take (e_ - p), (x.2 == 2) = (rd K (p : Int) == 2) := by
        intro x hx
        obtain ⟨j, j1, j2, j3⟩ := z_get s K hK p (e_ - p) (by omega) x hx
        rw [j3]
        exact g3 j j1 (by omega)
      have hfst := z_fst s K hK p (e_ - p)
      have hst := st_run (((zL s K).drop p).take (e_ - p)) [] (rd K (p : Int)) ((zL s K).drop e_) hr hall g4
      rw [← hsplit] at hst
      rw [hst, List.nil_append]
      have hdl : (((bl s).drop p).take (e_ - p)).length = e_ - p := by rw [List.length_take, List.length_drop, len_list]; omega
      by_cases h2k : rd K (p : Int) = 2
      · have hh : ∀ x ∈ ((zL s K).drop p).take (e_ - p), x.2 = 2 := fun x hx => by have := hall x hx; rw [h2k] at this; simpa using this
        rw [e1_hard _ hh, hfst, flush, if_pos h2k]
        have hel : ∀ l : List UInt8, (l.flatMap escL).length ≤ 4 * l.length := by
          intro l
          induction l with
          | nil => simp
          | cons c l ih => have := escL_len c; rw [List.flatMap_cons, List.length_append, List.length_cons]; omega
        have hel' := hel (((bl s).drop p).take (e_ - p))
        refine Ev.step (f := fun k => quote_stretches.l2 k s K (B (out ++ [36, 39])) (p : Int) (e_ : Int)) (fun k => ?_) (stretch_l2 s K hs hK e_ g2 _ (e_ - p) p (out ++ [36, 39]) (by omega) (by simp; omega) ?_)
        · rw [quote_stretches.j2, if_pos (by omega), if_pos (by omega), if_pos h2k, if_pos (by rw [B_size]; omega)]
          show quote_stretches.l2 k s K (B out ++ B [36, 39]) _ _ = _
          rw [B_app]
        · have := ih e_ (out ++ [36, 39] ++ (((bl s).drop p).take (e_ - p)).flatMap escL ++ [39]) (by omega) g2 (by simp only [List.length_append, List.length_cons, List.length_nil]; omega)
          simpa [List.append_assoc] using this
      · have hh : ∀ x ∈ ((zL s K).drop p).take (e_ - p), ¬ x.2 = 2 := fun x hx h => by have := hall x hx; rw [h] at this; exact h2k (by simpa using this.symm)
        rw [e1_soft _ hh, hfst, flush, if_neg h2k]
        have hq := quotedL_len (((bl s).drop p).take (e_ - p))
        have hx : s.extract p e_ = B (((bl s).drop p).take (e_ - p)) := ext_eq s p e_
        have hf : quote_quoted.f (B (((bl s).drop p).take (e_ - p))) = some (B (quotedL (((bl s).drop p).take (e_ - p)))) := quoted_f (B (((bl s).drop p).take (e_ - p))) (by rw [B_size]; omega)
        refine Ev.step (f := fun k => quote_stretches.l0 k s K (B (out ++ quotedL (((bl s).drop p).take (e_ - p)))) (e_ : Int)) (fun k => ?_) ?_
        · rw [quote_stretches.j2, if_pos (by omega), if_pos (by omega), if_neg h2k, if_pos (by omega), if_pos (by omega), Int.toNat_natCast, Int.toNat_natCast, hx, hf]
          simp only [Option.bind_some]
          rw [if_pos (by rw [B_size, B_size]; omega), B_app]
        · have := ih e_ (out ++ quotedL (((bl s).drop p).take (e_ - p))) (by omega) g2 (by simp only [List.length_append]; omega)
          simpa [List.append_assoc] using this
    · refine Ev.step (f := fun _ => some (B out)) (fun k => ?_) (by rw [List.drop_eq_nil_of_le (by rw [z_len s K hK]; omega), stR, List.append_nil]; exact Ev.now _)
      rw [quote_stretches.l0, if_neg (by omega)]
theorem stretches_ev (s : ByteArray) (K : List Int) (hs : s.size ≤ 100000) (hK : K.length = s.size) : Ev (fun k => quote_stretches.f k s K) (B (stR [] (zL s K))) := by
  have := stretch_l0 s K hs hK s.size 0 [] (by omega) (by omega) (by simp)
  rw [List.drop_zero, List.nil_append] at this
  exact this
/-! ### Quote -/
def allP (K : List Int) : Bool := decide (0 < K.length) && K.all (· == 1)
def someH (K : List Int) : Bool := K.any (· == 2)
def quoteL (style : Int) (s : ByteArray) (K : List Int) : List UInt8 :=
  if style = 0 then bl s else if style = 4 then [34] ++ inCL [34, 92] (zL s K) ++ [34] else if style = 5 then inCL [32, 92] (zL s K) else if style = 2 then quotedL (bl s) else
  if style = 1 ∨ style = 3 then (if allP K = true then bl s else if style = 3 ∧ someH K = true then stR [] (zL s K) else quotedL (bl s)) else []
theorem rd_at (K : List Int) (i : Nat) (h : i < K.length) : rd K (i : Int) = K[i] := by unfold rd; simp [List.getD, h]
theorem all_l0 (K : List Int) (hl : K.length ≤ 1000000) : ∀ (d i : Nat), i + d = K.length → Ev (fun k => quote_all.l0 k K 1 K (K.length : Int) (i : Int)) ((K.drop i).all (· == 1) && decide (0 < K.length)) := by
  intro d
  induction d with
  | zero =>
    intro i h
    refine Ev.step (f := fun _ => some (decide ((K.length : Int) > 0))) (fun k => by rw [quote_all.l0, if_neg (by omega)]) ?_
    rw [List.drop_eq_nil_of_le (by omega)]
    have : decide ((K.length : Int) > 0) = (List.all [] (fun x : Int => x == 1) && decide (0 < K.length)) := by simp
    rw [this]
    exact Ev.now _
  | succ d ih =>
    intro i h
    have hi : i < K.length := by omega
    rw [List.drop_eq_getElem_cons hi, List.all_cons]
    by_cases h1 : K[i] = 1
    · refine Ev.step (f := fun k => quote_all.l0 k K 1 K (K.length : Int) ((i + 1 : Nat) : Int)) (fun k => ?_) ?_
      · rw [quote_all.l0, if_pos (by omega), if_pos (by omega), if_pos (by omega), rd_at K i hi, if_pos h1, wrap_id _ (by omega) (by omega), show (i : Int) + 1 = ((i + 1 : Nat) : Int) from by omega]
      · have := ih (i + 1) (by omega)
        rw [show (K[i] == 1) = true from beq_iff_eq.2 h1, Bool.true_and]
        exact this
    · refine Ev.step (f := fun _ => some false) (fun k => ?_) ?_
      · rw [quote_all.l0, if_pos (by omega), if_pos (by omega), if_pos (by omega), rd_at K i hi, if_neg h1]
      · rw [show (K[i] == 1) = false from beq_eq_false_iff_ne.2 h1]
        exact Ev.now false
theorem all_ev (K : List Int) (hl : K.length ≤ 1000000) : Ev (fun k => quote_all.f k K 1) (allP K) := by
  have := all_l0 K hl K.length 0 (by omega)
  rw [List.drop_zero, Bool.and_comm] at this
  exact this
theorem some_l0 (K : List Int) (hl : K.length ≤ 1000000) : ∀ (d i : Nat), i + d = K.length → Ev (fun k => quote_some.l0 k 2 K (K.length : Int) (i : Int)) ((K.drop i).any (· == 2)) := by
  intro d
  induction d with
  | zero =>
    intro i h
    refine Ev.step (f := fun _ => some false) (fun k => by rw [quote_some.l0, if_neg (by omega)]) ?_
    rw [List.drop_eq_nil_of_le (by omega)]
    exact Ev.now _
  | succ d ih =>
    intro i h
    have hi : i < K.length := by omega
    rw [List.drop_eq_getElem_cons hi, List.any_cons]
    by_cases h1 : K[i] = 2
    · refine Ev.step (f := fun _ => some true) (fun k => ?_) ?_
      · rw [quote_some.l0, if_pos (by omega), if_pos (by omega), if_pos (by omega), rd_at K i hi, if_pos h1]
      · rw [show (K[i] == 2) = true from beq_iff_eq.2 h1]
        exact Ev.now true
    · refine Ev.step (f := fun k => quote_some.l0 k 2 K (K.length : Int) ((i + 1 : Nat) : Int)) (fun k => ?_) ?_
      · rw [quote_some.l0, if_pos (by omega), if_pos (by omega), if_pos (by omega), rd_at K i hi, if_neg h1, wrap_id _ (by omega) (by omega), show (i : Int) + 1 = ((i + 1 : Nat) : Int) from by omega]
      · have := ih (i + 1) (by omega)
        rw [show (K[i] == 2) = false from beq_eq_false_iff_ne.2 h1, Bool.false_or]
        exact this
theorem some_ev (K : List Int) (hl : K.length ≤ 1000000) : Ev (fun k => quote_some.f k K 2) (someH K) := by
  have := some_l0 K hl K.length 0 (by omega)
  rw [List.drop_zero] at this
  exact this
theorem kindsL_len : ∀ (m : Nat) (l : List UInt8), l.length ≤ m → (kindsL m l).length = l.length
  | 0, l, h => by
    obtain rfl : l = [] := List.eq_nil_of_length_eq_zero (by omega)
    rfl
  | m + 1, l, h => by
    rw [kindsL]
    by_cases hl : l = []
    · rw [if_pos hl, hl]
      rfl
    · rw [if_neg hl, List.length_append, List.length_replicate]
      have h1 := dec_ge l
      have h2 := dec_len l hl
      rw [kindsL_len m _ (by rw [List.length_drop]; omega), List.length_drop]
      omega
theorem kL_len (s : ByteArray) : (kL s).length = s.size := by
  unfold kL
  rw [kindsL_len _ _ (by rw [len_list]; exact Nat.le_refl _), len_list]
theorem quote_ev (style : Int) (s : ByteArray) (hs : s.size ≤ 100000) : Ev (fun k => quote_Quote.f k style s) (B (quoteL style s (kL s))) := by
  have hK := kL_len s
  refine Ev.bind (f := fun k t120 => (if style = 0 then (some s) else (if style = 4 then ((quote_inC.f s (⟨#[34, 92]⟩ : ByteArray) t120).bind fun t123 => (if 1 + t123.size ≤ 9223372036854775807 then (if 1 + t123.size + 1 ≤ 9223372036854775807 then (some (((⟨#[34]⟩ : ByteArray) ++ t123) ++ (⟨#[34]⟩ : ByteArray))) else (none)) else (none))) else (if style = 5 then ((quote_inC.f s (⟨#[32, 92]⟩ : ByteArray) t120).bind fun t124 => (some t124)) else (if style = 2 then ((quote_quoted.f s).bind fun t125 => (some t125)) else (if style = 1 then (quote_Quote.j0 k style s t120 (style == 1)) else (quote_Quote.j0 k style s t120 (style == 3)))))))) (kinds_ev s hs) ?_
  generalize kL s = K at *
  have hz := inCL_len [34, 92] (zL s K)
  rw [z_len s K hK] at hz
  unfold quoteL
  by_cases h0 : style = 0
  · refine Ev.congr (f := fun _ => some s) (fun k => by rw [if_pos h0]) ?_
    rw [if_pos h0, B_bl]
    exact Ev.now s
  rw [if_neg h0]
  by_cases h4 : style = 4
  · refine Ev.congr (f := fun _ => some (B ([34] ++ inCL [34, 92] (zL s K) ++ [34]))) (fun k => ?_) (by rw [if_pos h4]; exact Ev.now _)
    rw [if_neg h0, if_pos h4, inC_f s _ K hs hK]
    simp only [Option.bind_some]
    have hb : (B (inCL [34, 92] (zL s K))).size = (inCL [34, 92] (zL s K)).length := B_size _
    show (if 1 + (B (inCL [34, 92] (zL s K))).size ≤ 9223372036854775807 then _ else _) = _
    rw [if_pos (by rw [hb]; omega), if_pos (by show 1 + (B (inCL [34, 92] (zL s K))).size + 1 ≤ _; rw [hb]; omega)]
    show some (B [34] ++ B (inCL [34, 92] (zL s K)) ++ B [34]) = _
    rw [B_app, B_app]
  rw [if_neg h4]
  by_cases h5 : style = 5
  · refine Ev.congr (f := fun _ => some (B (inCL [32, 92] (zL s K)))) (fun k => ?_) (by rw [if_pos h5]; exact Ev.now _)
    rw [if_neg h0, if_neg h4, if_pos h5, inC_f s _ K hs hK]
    rfl
  rw [if_neg h5]
  by_cases h2 : style = 2
  · refine Ev.congr (f := fun _ => some (B (quotedL (bl s)))) (fun k => ?_) (by rw [if_pos h2]; exact Ev.now _)
    rw [if_neg h0, if_neg h4, if_neg h5, if_pos h2, quoted_f s hs]
    rfl
  rw [if_neg h2]
  have e : ∀ k, (if style = 0 then (some s) else (if style = 4 then ((quote_inC.f s (⟨#[34, 92]⟩ : ByteArray) K).bind fun t123 => (if 1 + t123.size ≤ 9223372036854775807 then (if 1 + t123.size + 1 ≤ 9223372036854775807 then (some (((⟨#[34]⟩ : ByteArray) ++ t123) ++ (⟨#[34]⟩ : ByteArray))) else (none)) else (none))) else (if style = 5 then ((quote_inC.f s (⟨#[32, 92]⟩ : ByteArray) K).bind fun t124 => (some t124)) else (if style = 2 then ((quote_quoted.f s).bind fun t125 => (some t125)) else (if style = 1 then (quote_Quote.j0 k style s K (style == 1)) else (quote_Quote.j0 k style s K (style == 3))))))) = quote_Quote.j0 k style s K (decide (style = 1 ∨ style = 3)) := by
    intro k
    rw [if_neg h0, if_neg h4, if_neg h5, if_neg h2]
    by_cases h1 : style = 1
    · rw [if_pos h1, show (style == 1) = true from beq_iff_eq.2 h1, decide_eq_true (.inl h1)]
    · rw [if_neg h1]
      by_cases h3 : style = 3
      · rw [show (style == 3) = true from beq_iff_eq.2 h3, decide_eq_true (.inr h3)]
      · rw [show (style == 3) = false from beq_eq_false_iff_ne.2 h3, decide_eq_false (by rintro (h | h); exact h1 h; exact h3 h)]
  refine Ev.congr (f := fun k => quote_Quote.j0 k style s K (decide (style = 1 ∨ style = 3))) e ?_
  have j1q : Ev (fun k => quote_Quote.j1 k s K false) (B (quotedL (bl s))) := Ev.step (f := fun _ => some (B (quotedL (bl s)))) (fun k => by rw [quote_Quote.j1, if_neg (by decide), quoted_f s hs]; rfl) (Ev.now _)
  have j1s : Ev (fun k => quote_Quote.j1 k s K true) (B (stR [] (zL s K))) := Ev.step (f := fun k => (quote_stretches.f k s K).bind fun t => some t) (fun k => by rw [quote_Quote.j1, if_pos rfl]) (Ev.bind (f := fun _ t => some t) (stretches_ev s K hs hK) (Ev.now _))
  by_cases h13 : style = 1 ∨ style = 3
  · rw [if_pos h13, decide_eq_true h13]
    refine Ev.step (f := fun k => (quote_all.f k K 1).bind fun t126 => (if t126 = true then (some s) else (if style = 3 then ((quote_some.f k K 2).bind fun t127 => (quote_Quote.j1 k s K t127)) else (quote_Quote.j1 k s K false)))) (fun k => by rw [quote_Quote.j0, if_pos rfl]) (Ev.bind (f := fun k t126 => (if t126 = true then (some s) else (if style = 3 then ((quote_some.f k K 2).bind fun t127 => (quote_Quote.j1 k s K t127)) else (quote_Quote.j1 k s K false)))) (all_ev K (by omega)) ?_)
    by_cases ha : allP K = true
    · rw [if_pos ha, B_bl]
      exact Ev.congr (f := fun _ => some s) (fun k => by rw [if_pos ha]) (Ev.now s)
    · rw [if_neg ha]
      by_cases h3 : style = 3
      · refine Ev.congr (f := fun k => (quote_some.f k K 2).bind fun t127 => (quote_Quote.j1 k s K t127)) (fun k => by rw [if_neg ha, if_pos h3]) (Ev.bind (f := fun k t => quote_Quote.j1 k s K t) (some_ev K (by omega)) ?_)
        by_cases hh : someH K = true
        · rw [if_pos ⟨h3, hh⟩, hh]
          exact j1s
        · rw [if_neg (fun h => hh h.2), Bool.eq_false_iff.2 hh]
          exact j1q
      · rw [if_neg (fun h => h3 h.1)]
        exact Ev.congr (f := fun k => quote_Quote.j1 k s K false) (fun k => by rw [if_neg ha, if_neg h3]) j1q
  · rw [if_neg h13, decide_eq_false h13]
    exact Ev.step (f := fun _ => some (⟨#[]⟩ : ByteArray)) (fun k => by rw [quote_Quote.j0, if_neg (by decide)]) (Ev.now _)
end Go.Proofs.YtkhbgfnbkdonlaaDoor.Pure
