/- The plain laws of quote: what each byte of a name is, by the program and by the document. -/
import Derived.Test.YtkhbgfnbkdonlaaDoorQQuo2
import Derived.Test.YtkhbgfnbkdonlaaDoorQQuoR1
import Derived.Shelf.Strings.MapAny
import Derived.Shelf.Unicode.DecodeLastEight
import Derived.Lib.TrimU
namespace Go.Proofs.YtkhbgfnbkdonlaaDoor.Pure
open Go.RowKit Go.Lib Go.Proofs.YtkhbgfnbkdonlaaDoor.QQuo Go.Proofs.YtkhbgfnbkdonlaaDoorW.PrintWords Go.Proofs.YtkhbgfnbkdonlaaDoorW.PrintLast Go.Proofs.YtkhbgfnbkdonlaaDoorW.PrintMore
set_option linter.unusedVariables false
set_option linter.unusedSimpArgs false

theorem wrap_id (x : Int) (h : -9223372036854775808 ≤ x) (h' : x ≤ 9223372036854775807) : wrap64 x = x := by unfold wrap64; omega
theorem len_list (s : ByteArray) : s.data.toList.length = s.size := by rw [Array.length_toList]; rfl
theorem ext_list (s : ByteArray) (p : Nat) : (s.extract p s.size).data.toList = s.data.toList.drop p := Lib.extract_to_end s p
/-- A text's bytes. -/
abbrev bl (s : ByteArray) : List UInt8 := s.data.toList
abbrev g0 (l : List UInt8) (i : Nat) : Nat := (l.getD i 0).toNat
theorem get_list (x : ByteArray) (i : Nat) : (x.get! i).toNat = g0 (bl x) i := by
  unfold g0 bl
  by_cases h : i < x.size
  · simp [ByteArray.get!, getElem!_pos, h, List.getD]
  · simp [ByteArray.get!, List.getD, h]
    rfl
theorem bt_list (s : ByteArray) (i : Nat) (h : i < s.size) : bt s (i : Int) = (g0 (bl s) i : Int) := by
  unfold bt
  rw [dif_pos (by simpa using h)]
  unfold g0 bl
  simp [List.getD, ByteArray.getElem_eq_getElem_data, h]
theorem g0_lt (l : List UInt8) (i : Nat) : g0 l i < 256 := UInt8.toNat_lt _
theorem tmod_nn (x d : Int) (h : 0 ≤ x) : Int.tmod x d = x % d := Int.tmod_eq_emod_of_nonneg h
/-- The character that bytes begin with: its number, how many bytes. -/
def decL (l : List UInt8) : Nat × Nat := decodeN l.length (g0 l 0) (g0 l 1) (g0 l 2) (g0 l 3)
theorem dec_eq (x : ByteArray) (h : 0 < x.size) : decodeGo x = decL (bl x) := by
  unfold decodeGo decL
  rw [if_neg (by omega), decode_at]
  simp only [Nat.zero_add, Nat.sub_zero, get_list, len_list]
def isSign (c : Nat) : Bool := c == 95 || c == 64 || c == 37 || c == 43 || c == 61 || c == 58 || c == 44 || c == 46 || c == 47 || c == 45
def isPlain (c : Nat) : Prop := (65 ≤ c ∧ c ≤ 90) ∨ (97 ≤ c ∧ c ≤ 122) ∨ (48 ≤ c ∧ c ≤ 57) ∨ isSign c = true
instance (c : Nat) : Decidable (isPlain c) := inferInstanceAs (Decidable (_ ∨ _))
/-- What a byte below 128 is. -/
def ascK (c : Nat) : Int := if isPlain c then 1 else if c < 32 ∨ c = 127 then 2 else 0
def tokK (l : List UInt8) : Int := if (decL l).1 = 65533 ∧ (decL l).2 ≤ 1 then 2 else if (decL l).2 = 1 then ascK (g0 l 0) else 1
theorem tokK_of {l : List UInt8} {r n : Nat} (h : decL l = (r, n)) : tokK l = if r = 65533 ∧ n ≤ 1 then 2 else if n = 1 then ascK (g0 l 0) else 1 := by
  unfold tokK; rw [h]
/-- What each byte is. -/
def kindsL : Nat → List UInt8 → List Int
  | 0, _ => []
  | m + 1, l => if l = [] then [] else List.replicate (decL l).2 (tokK l) ++ kindsL m (l.drop (decL l).2)
theorem dec_ge (l : List UInt8) : 1 ≤ (decL l).2 := decodeN_ge1 _ _ _ _ _
set_option maxRecDepth 100000 in
theorem decN_le4 (n b0 b1 b2 b3 : Nat) : (decodeN n b0 b1 b2 b3).2 ≤ 4 := by
  unfold decodeN
  repeat' split
  all_goals simp
theorem dec_le4 (l : List UInt8) : (decL l).2 ≤ 4 := decN_le4 _ _ _ _ _
set_option maxRecDepth 100000 in
theorem decN_len (n b0 b1 b2 b3 : Nat) (hn : 0 < n) : (decodeN n b0 b1 b2 b3).2 ≤ n := by
  unfold decodeN
  repeat' split
  all_goals (simp only; omega)
theorem dec_len (l : List UInt8) (h : l ≠ []) : (decL l).2 ≤ l.length := decN_len _ _ _ _ _ (List.length_pos_iff.2 h)
/-! ### ascii -/
theorem signs_index (c : Nat) (hc : c < 256) : decide (Lib.indexByte [95, 64, 37, 43, 61, 58, 44, 46, 47, 45] c.toUInt8 ≥ 0) = isSign c := by
  have : ∀ d : Fin 256, decide (Lib.indexByte [95, 64, 37, 43, 61, 58, 44, 46, 47, 45] d.val.toUInt8 ≥ 0) = isSign d.val := by decide +kernel
  exact this ⟨c, hc⟩
theorem ascii_ev (c : Nat) (hc : c < 256) : Ev (fun k => quote_ascii.f k (c : Int)) (ascK c) := by
  have : ∀ d : Fin 256, quote_ascii.f 8 (d.val : Int) = some (ascK d.val) := by decide +kernel
  exact Ev.of (fun k => quote_ascii.mono _ k) (this ⟨c, hc⟩)
theorem sign_ev (c : Nat) (hc : c < 256) : Ev (fun k => domesdayref03_sign.f k (c : Int)) (isSign c) := by
  have : ∀ d : Fin 256, domesdayref03_sign.f 20 (d.val : Int) = some (isSign d.val) := by decide +kernel
  exact Ev.of (fun k => domesdayref03_sign.mono _ k) (this ⟨c, hc⟩)
/-! ### kinds -/
theorem kinds_l1 (s : ByteArray) (at_ n : Nat) (kd : Int) (hn : n ≤ 4) (r : List Int) : ∀ (d i : Nat) (out : List Int), i + d = n → out.length + d ≤ 1000000 →
    Ev (fun k => quote_kinds.l0 k s (out ++ List.replicate d kd) (wrap64 ((at_ : Int) + (n : Int)))) r → Ev (fun k => quote_kinds.l1 k s out (at_ : Int) (n : Int) kd (n : Int) (i : Int)) r := by
  intro d
  induction d with
  | zero =>
    intro i out h ho hr
    refine Ev.step (f := fun k => quote_kinds.l0 k s (out ++ List.replicate 0 kd) (wrap64 ((at_ : Int) + (n : Int)))) (fun k => ?_) hr
    rw [quote_kinds.l1, if_neg (by omega)]
    simp
  | succ d ih =>
    intro i out h ho hr
    refine Ev.step (f := fun k => quote_kinds.l1 k s (out ++ [kd]) (at_ : Int) (n : Int) kd (n : Int) ((i + 1 : Nat) : Int)) (fun k => ?_) (ih (i + 1) (out ++ [kd]) (by omega) (by simp; omega) ?_)
    · rw [quote_kinds.l1, if_pos (by omega), if_pos (by omega), wrap_id _ (by omega) (by omega), show (i : Int) + 1 = ((i + 1 : Nat) : Int) from by omega]
    · rw [List.append_assoc]
      exact hr
/-! ### The document's characters (as in the texts on width) -/
theorem bt_get (s : ByteArray) (i : Nat) (h : i < s.size) : bt s (i : Int) = ((s.get! i).toNat : Int) := by
  unfold bt
  rw [dif_pos (by simpa using h)]
  simp [ByteArray.get!, ByteArray.getElem_eq_getElem_data, getElem!_pos, h]
/-- The character that a text begins with: -1 where it is bad. -/
def nx (x : ByteArray) : Int × Int := if (decodeGo x).1 = 65533 ∧ (decodeGo x).2 ≤ 1 then (-1, 1) else (((decodeGo x).1 : Int), ((decodeGo x).2 : Int))
theorem byte_lt (x : ByteArray) (i : Nat) : (x.get! i).toNat < 256 := UInt8.toNat_lt _
/-- The loop over the bytes behind the first one: each is one more of six bits. -/
theorem step_l (x : ByteArray) (n i : Nat) (r least : Int) (k : Nat) (hi : i < n) (hn : n ≤ x.size) (hn4 : n ≤ 4) (r0 : 0 ≤ r) (r1 : r < 100000) :
    domesdayref02_Next.l0 (k + 1) x (n : Int) r least (i : Int) = if (x.get! i).toNat / 64 = 2 then domesdayref02_Next.l0 k x (n : Int) (r * 64 + ((x.get! i).toNat % 64 : Nat)) least ((i + 1 : Nat) : Int) else some (-1, 1) := by
  have hb := byte_lt x i
  rw [domesdayref02_Next.l0, if_pos (by omega), if_pos (by omega), if_pos (by omega), bt_get x i (by omega), wrap_id (((x.get! i).toNat : Nat) : Int) (by omega) (by omega), tmod_nn _ _ (by omega), wrap_id (r * 64) (by omega) (by omega), wrap_id _ (by omega) (by omega), wrap_id ((i : Int) + 1) (by omega) (by omega)]
  by_cases c1 : (((x.get! i).toNat : Nat) : Int) < 128
  · rw [if_pos c1, if_neg (by omega)]
  · rw [if_neg c1]
    by_cases c2 : (((x.get! i).toNat : Nat) : Int) ≥ 192
    · rw [if_pos c2, if_neg (by omega)]
    · rw [if_neg c2, if_pos (by omega), show ((i : Int) + 1) = ((i + 1 : Nat) : Int) from by omega, show (((x.get! i).toNat : Nat) : Int) % 64 = (((x.get! i).toNat % 64 : Nat) : Int) from by omega]
theorem last_l (x : ByteArray) (n : Nat) (r least : Int) (k : Nat) :
    domesdayref02_Next.l0 (k + 1) x (n : Int) r least (n : Int) = if r < least ∨ r > 1114111 ∨ (r ≥ 55296 ∧ r ≤ 57343) then some (-1, 1) else some (r, (n : Int)) := by
  rw [domesdayref02_Next.l0, if_neg (by omega)]
  by_cases c1 : r < least
  · rw [if_pos c1, if_pos (Or.inl c1)]
  · rw [if_neg c1]
    by_cases c2 : r > 1114111
    · rw [if_pos c2, if_pos (Or.inr (Or.inl c2))]
    · rw [if_neg c2]
      by_cases c3 : r ≥ 55296
      · rw [if_pos c3]
        by_cases c4 : r ≤ 57343
        · rw [if_pos c4, if_pos (Or.inr (Or.inr ⟨c3, c4⟩))]
        · rw [if_neg c4, if_neg (by omega)]
      · rw [if_neg c3, if_neg (by omega)]
set_option maxRecDepth 100000 in
theorem start_j (x : ByteArray) (n : Nat) (r least : Int) (k : Nat) (hn : 0 < n) (hn4 : n ≤ 4) :
    domesdayref02_Next.j2 (k + 2) x (n : Int) r least = if n ≤ x.size then domesdayref02_Next.l0 k x (n : Int) r least 1 else some (-1, 1) := by
  rw [domesdayref02_Next.j2, if_neg (by omega), domesdayref02_Next.j3]
  by_cases c : n ≤ x.size
  · rw [decide_eq_false (by omega), if_neg (by simp), if_pos c]
  · rw [decide_eq_true (by omega), if_pos rfl, if_neg c]
set_option maxRecDepth 100000 in
theorem dec2 (n b0 b1 b2 b3 : Nat) (h : 192 ≤ b0) (h' : b0 < 224) : decodeN n b0 b1 b2 b3 = if 1 < n ∧ b1 / 64 = 2 ∧ b0 % 32 * 64 + b1 % 64 ≥ 128 then (b0 % 32 * 64 + b1 % 64, 2) else (65533, 1) := by
  unfold decodeN
  repeat' split
  all_goals first | rfl | (exfalso; omega)
set_option maxRecDepth 100000 in
theorem dec3 (n b0 b1 b2 b3 : Nat) (h : 224 ≤ b0) (h' : b0 < 240) : decodeN n b0 b1 b2 b3 = if 2 < n ∧ b1 / 64 = 2 ∧ b2 / 64 = 2 ∧ b0 % 16 * 4096 + b1 % 64 * 64 + b2 % 64 ≥ 2048 ∧ (b0 % 16 * 4096 + b1 % 64 * 64 + b2 % 64 < 55296 ∨ 57344 ≤ b0 % 16 * 4096 + b1 % 64 * 64 + b2 % 64) then (b0 % 16 * 4096 + b1 % 64 * 64 + b2 % 64, 3) else (65533, 1) := by
  unfold decodeN
  repeat' split
  all_goals first | rfl | (exfalso; omega)
set_option maxRecDepth 100000 in
theorem dec4 (n b0 b1 b2 b3 : Nat) (h : 240 ≤ b0) (h' : b0 < 248) : decodeN n b0 b1 b2 b3 = if 3 < n ∧ b1 / 64 = 2 ∧ b2 / 64 = 2 ∧ b3 / 64 = 2 ∧ b0 % 8 * 262144 + b1 % 64 * 4096 + b2 % 64 * 64 + b3 % 64 ≥ 65536 ∧ b0 % 8 * 262144 + b1 % 64 * 4096 + b2 % 64 * 64 + b3 % 64 ≤ 1114111 then (b0 % 8 * 262144 + b1 % 64 * 4096 + b2 % 64 * 64 + b3 % 64, 4) else (65533, 1) := by
  unfold decodeN
  repeat' split
  all_goals first | rfl | (exfalso; omega)
set_option maxRecDepth 100000 in
theorem dec0 (n b0 b1 b2 b3 : Nat) (h : 128 ≤ b0) (h' : b0 < 192 ∨ 248 ≤ b0) (hb : b0 < 256) : decodeN n b0 b1 b2 b3 = (65533, 1) := by
  unfold decodeN
  repeat' split
  all_goals first | rfl | (exfalso; omega)
theorem nx_if (C : Prop) [Decidable C] (v n : Nat) (hn : 2 ≤ n) : (if (if C then (v, n) else ((65533, 1) : Nat × Nat)).1 = 65533 ∧ (if C then (v, n) else ((65533, 1) : Nat × Nat)).2 ≤ 1 then ((-1, 1) : Int × Int) else (((if C then (v, n) else ((65533, 1) : Nat × Nat)).1 : Int), ((if C then (v, n) else ((65533, 1) : Nat × Nat)).2 : Int))) = if C then ((v : Int), (n : Int)) else (-1, 1) := by
  by_cases c : C
  · simp only [if_pos c]
    rw [if_neg (fun h => by have := h.2; omega)]
  · simp only [if_neg c]
    rfl
theorem next_eq (x : ByteArray) (h : 0 < x.size) (k : Nat) (hk : 20 ≤ k) : domesdayref02_Next.f k x = some (nx x) := by
  obtain ⟨k, rfl⟩ : ∃ j, k = j + 12 := ⟨k - 12, by omega⟩
  have e : decodeGo x = decodeN x.size (x.get! 0).toNat (x.get! 1).toNat (x.get! 2).toNat (x.get! 3).toNat := by
    unfold decodeGo; rw [if_neg (by omega), decode_at]; simp
  have b0 := byte_lt x 0
  have b1 := byte_lt x 1
  have b2 := byte_lt x 2
  have b3 := byte_lt x 3
  have hb : bt x 0 = ((x.get! 0).toNat : Int) := bt_get x 0 h
  unfold nx
  rw [e, domesdayref02_Next.f, if_pos (by omega), hb, wrap_id _ (by omega) (by omega)]
  by_cases c0 : (x.get! 0).toNat < 128
  · rw [if_pos (by omega)]
    unfold decodeN
    rw [if_pos c0, if_neg (by omega)]
    rfl
  · rw [if_neg (by omega)]
    by_cases c2 : 192 ≤ (x.get! 0).toNat ∧ (x.get! 0).toNat < 224
    · rw [dec2 _ _ _ _ _ c2.1 c2.2, nx_if _ _ _ (by omega), if_pos (by omega), decide_eq_true (by omega), domesdayref02_Next.j0, if_pos rfl, tmod_nn _ _ (by omega), show (2 : Int) = ((2 : Nat) : Int) from rfl, start_j x 2 _ _ _ (by omega) (by omega)]
      by_cases s2 : 2 ≤ x.size
      · rw [if_pos s2, show (1 : Int) = ((1 : Nat) : Int) from rfl, step_l x 2 1 _ _ _ (by omega) s2 (by omega) (by omega) (by omega), last_l]
        repeat' split
        all_goals first | rfl | (exfalso; omega) | (congr 2 <;> omega)
      · rw [if_neg s2, if_neg (by omega)]
    · by_cases c3 : 224 ≤ (x.get! 0).toNat ∧ (x.get! 0).toNat < 240
      · rw [dec3 _ _ _ _ _ c3.1 c3.2, nx_if _ _ _ (by omega), if_pos (by omega), decide_eq_false (by omega), domesdayref02_Next.j0, if_neg (by simp), if_pos (by omega), decide_eq_true (by omega), domesdayref02_Next.j1, if_pos rfl, tmod_nn _ _ (by omega), show (3 : Int) = ((3 : Nat) : Int) from rfl, start_j x 3 _ _ _ (by omega) (by omega)]
        by_cases s2 : 3 ≤ x.size
        · rw [if_pos s2, show (1 : Int) = ((1 : Nat) : Int) from rfl, step_l x 3 1 _ _ _ (by omega) s2 (by omega) (by omega) (by omega), step_l x 3 2 _ _ _ (by omega) s2 (by omega) (by omega) (by omega), last_l]
          repeat' split
          all_goals first | rfl | (exfalso; omega) | (congr 2 <;> omega)
        · rw [if_neg s2, if_neg (by omega)]
      · by_cases c4 : 240 ≤ (x.get! 0).toNat ∧ (x.get! 0).toNat < 248
        · rw [dec4 _ _ _ _ _ c4.1 c4.2, nx_if _ _ _ (by omega), if_pos (by omega), decide_eq_false (by omega), domesdayref02_Next.j0, if_neg (by simp), if_pos (by omega), decide_eq_false (by omega), domesdayref02_Next.j1, if_neg (by simp), if_pos (by omega), if_pos (by omega), tmod_nn _ _ (by omega), show (4 : Int) = ((4 : Nat) : Int) from rfl, start_j x 4 _ _ _ (by omega) (by omega)]
          by_cases s2 : 4 ≤ x.size
          · rw [if_pos s2, show (1 : Int) = ((1 : Nat) : Int) from rfl, step_l x 4 1 _ _ _ (by omega) s2 (by omega) (by omega) (by omega), step_l x 4 2 _ _ _ (by omega) s2 (by omega) (by omega) (by omega), step_l x 4 3 _ _ _ (by omega) s2 (by omega) (by omega) (by omega), last_l]
            repeat' split
            all_goals first | rfl | (exfalso; omega) | (congr 2 <;> omega)
          · rw [if_neg s2, if_neg (by omega)]
        · rw [dec0 _ _ _ _ _ (by omega) (by omega) b0, show (if ((65533, 1) : Nat × Nat).1 = 65533 ∧ ((65533, 1) : Nat × Nat).2 ≤ 1 then ((-1, 1) : Int × Int) else ((((65533, 1) : Nat × Nat).1 : Int), (((65533, 1) : Nat × Nat).2 : Int))) = (-1, 1) from rfl]
          have fin : ∀ k', domesdayref02_Next.j2 (k' + 2) x 0 0 0 = some (-1, 1) := by
            intro k'
            rw [domesdayref02_Next.j2, if_pos rfl, domesdayref02_Next.j3, if_pos rfl]
          by_cases c5 : (x.get! 0).toNat < 192
          · rw [if_neg (by omega), domesdayref02_Next.j0, if_neg (by simp), if_neg (by omega), domesdayref02_Next.j1, if_neg (by simp), if_neg (by omega), fin]
          · rw [if_pos (by omega), decide_eq_false (by omega), domesdayref02_Next.j0, if_neg (by simp), if_pos (by omega), decide_eq_false (by omega), domesdayref02_Next.j1, if_neg (by simp), if_pos (by omega), if_neg (by omega), fin]
theorem rkinds_l1 (s : ByteArray) (at_ n : Nat) (kd : Int) (hn : n ≤ 4) (r : List Int) : ∀ (d i : Nat) (out : List Int), i + d = n → out.length + d ≤ 1000000 →
    Ev (fun k => domesdayref03_Kinds.l0 k s (out ++ List.replicate d kd) (wrap64 ((at_ : Int) + (n : Int)))) r → Ev (fun k => domesdayref03_Kinds.l1 k s out (at_ : Int) (n : Int) kd (i : Int)) r := by
  intro d
  induction d with
  | zero =>
    intro i out h ho hr
    refine Ev.step (f := fun k => domesdayref03_Kinds.l0 k s (out ++ List.replicate 0 kd) (wrap64 ((at_ : Int) + (n : Int)))) (fun k => ?_) hr
    rw [domesdayref03_Kinds.l1, if_neg (by omega)]
    simp
  | succ d ih =>
    intro i out h ho hr
    refine Ev.step (f := fun k => domesdayref03_Kinds.l1 k s (out ++ [kd]) (at_ : Int) (n : Int) kd ((i + 1 : Nat) : Int)) (fun k => ?_) (ih (i + 1) (out ++ [kd]) (by omega) (by simp; omega) ?_)
    · rw [domesdayref03_Kinds.l1, if_pos (by omega), if_pos (by omega), wrap_id _ (by omega) (by omega), show (i : Int) + 1 = ((i + 1 : Nat) : Int) from by omega]
    · rw [List.append_assoc]
      exact hr
/-- The bytes from a place on. -/
theorem drop_ne (s : ByteArray) (p : Nat) (h : p < s.size) : (bl s).drop p ≠ [] := by
  intro e
  have := congrArg List.length e
  rw [List.length_drop, len_list] at this
  simp at this
  omega
theorem ext_pos (s : ByteArray) (p : Nat) (h : p < s.size) : 0 < (s.extract p s.size).size := by rw [ByteArray.size_extract]; omega
theorem g0_drop (l : List UInt8) (p i : Nat) : g0 (l.drop p) i = g0 l (p + i) := by
  unfold g0
  simp [List.getD, List.getElem?_drop]
theorem kinds_l0 (s : ByteArray) (hs : s.size ≤ 100000) : ∀ (m p : Nat) (out : List Int), s.size ≤ p + m → p ≤ s.size → out.length = p →
    Ev (fun k => quote_kinds.l0 k s out (p : Int)) (out ++ kindsL m ((bl s).drop p)) := by
  intro m
  induction m with
  | zero =>
    intro p out h1 h2 h3
    refine Ev.step (f := fun _ => some out) (fun k => ?_) (by simpa [kindsL] using Ev.now out)
    rw [quote_kinds.l0, if_neg (by omega)]
  | succ m ih =>
    intro p out h1 h2 h3
    by_cases hp : p < s.size
    · have hne := drop_ne s p hp
      have hd : decodeGo (s.extract p s.size) = decL ((bl s).drop p) := by rw [dec_eq _ (ext_pos s p hp)]; show decL (s.extract p s.size).data.toList = _; rw [ext_list]
      have hge := dec_ge ((bl s).drop p)
      have hle4 := dec_le4 ((bl s).drop p)
      have hlen := dec_len _ hne
      rw [List.length_drop, len_list] at hlen
      have hg : g0 ((bl s).drop p) 0 = g0 (bl s) p := g0_drop _ _ _
      rw [kindsL, if_neg hne]
      have go : ∀ kd : Int, kd = tokK ((bl s).drop p) → Ev (fun k => quote_kinds.j2 k s out (p : Int) ((decL ((bl s).drop p)).2 : Int) kd) (out ++ (List.replicate (decL ((bl s).drop p)).2 (tokK ((bl s).drop p)) ++ kindsL m (((bl s).drop p).drop (decL ((bl s).drop p)).2))) := by
        rintro kd rfl
        refine Ev.step (f := fun k => quote_kinds.l1 k s out (p : Int) ((decL ((bl s).drop p)).2 : Int) (tokK ((bl s).drop p)) ((decL ((bl s).drop p)).2 : Int) ((0 : Nat) : Int)) (fun k => by rw [quote_kinds.j2]; rfl) ?_
        refine kinds_l1 s p _ _ hle4 _ (decL ((bl s).drop p)).2 0 out (by omega) (by omega) ?_
        rw [← List.append_assoc, List.drop_drop, wrap_id _ (by omega) (by omega), show (p : Int) + ((decL ((bl s).drop p)).2 : Int) = ((p + (decL ((bl s).drop p)).2 : Nat) : Int) from by omega]
        exact ih _ _ (by omega) (by omega) (by simp [h3])
      generalize hD : decL ((bl s).drop p) = D at *
      obtain ⟨r, n⟩ := D
      simp only at hge hle4 hlen go ⊢
      refine Ev.step (f := fun k => if ((r : Nat) : Int) = 65533 then (quote_kinds.j1 k s out (p : Int) (n : Int) 1 (decide ((n : Int) ≤ 1))) else (quote_kinds.j1 k s out (p : Int) (n : Int) 1 false)) (fun k => ?_) ?_
      · rw [quote_kinds.l0, if_pos (by omega), if_pos (by omega), if_pos (by omega), Int.toNat_natCast]
        unfold utf8_DecodeRuneInString.f
        rw [hd]
        rfl
      · by_cases hb : r = 65533 ∧ n ≤ 1
        · have hK : tokK ((bl s).drop p) = 2 := by rw [tokK_of hD, if_pos hb]
          refine Ev.congr (f := fun k => quote_kinds.j1 k s out (p : Int) (n : Int) 1 true) (fun k => by rw [if_pos (by omega), decide_eq_true (by omega)]) ?_
          exact Ev.step (f := fun k => quote_kinds.j2 k s out (p : Int) (n : Int) 2) (fun k => by rw [quote_kinds.j1, if_pos rfl]) (go 2 hK.symm)
        · refine Ev.congr (f := fun k => quote_kinds.j1 k s out (p : Int) (n : Int) 1 false) (fun k => ?_) ?_
          · by_cases h4 : ((r : Nat) : Int) = 65533
            · rw [if_pos h4, decide_eq_false (by omega)]
            · rw [if_neg h4]
          · by_cases h1' : n = 1
            · have hK : tokK ((bl s).drop p) = ascK (g0 (bl s) p) := by rw [tokK_of hD, if_neg hb, if_pos h1', hg]
              refine Ev.step (f := fun k => (quote_ascii.f k ((g0 (bl s) p : Nat) : Int)).bind fun t => quote_kinds.j2 k s out (p : Int) (n : Int) t) (fun k => ?_) (Ev.bind (f := fun k t => quote_kinds.j2 k s out (p : Int) (n : Int) t) (ascii_ev _ (g0_lt _ _)) (go _ hK.symm))
              rw [quote_kinds.j1, if_neg (by decide), if_pos (by omega), if_pos (by omega), if_pos (by omega), bt_list s p hp]
            · have hK : tokK ((bl s).drop p) = 1 := by rw [tokK_of hD, if_neg hb, if_neg h1']
              exact Ev.step (f := fun k => quote_kinds.j2 k s out (p : Int) (n : Int) 1) (fun k => by rw [quote_kinds.j1, if_neg (by decide), if_neg (by omega)]) (go 1 hK.symm)
    · refine Ev.step (f := fun _ => some out) (fun k => ?_) ?_
      · rw [quote_kinds.l0, if_neg (by omega)]
      · rw [List.drop_eq_nil_of_le (by rw [len_list]; omega), kindsL, if_pos rfl, List.append_nil]
        exact Ev.now out
/-- What each byte of a text is. -/
def kL (s : ByteArray) : List Int := kindsL s.size (bl s)
theorem kinds_ev (s : ByteArray) (hs : s.size ≤ 100000) : Ev (fun k => quote_kinds.f k s) (kL s) := by
  have := kinds_l0 s hs s.size 0 [] (by omega) (by omega) rfl
  rw [List.nil_append, List.drop_zero] at this
  exact this
theorem rk_j3 (s : ByteArray) (out : List Int) (p n kd : Int) (b : Bool) (r : List Int) (h : Ev (fun k => domesdayref03_Kinds.l1 k s out p n (if b = true then 1 else kd) 0) r) : Ev (fun k => domesdayref03_Kinds.j3 k s out p n kd b) r := by
  cases b with
  | true => exact Ev.step (f := fun k => domesdayref03_Kinds.j4 k s out p n 1) (fun k => by rw [domesdayref03_Kinds.j3, if_pos rfl]) (Ev.step (f := fun k => domesdayref03_Kinds.l1 k s out p n 1 0) (fun k => by rw [domesdayref03_Kinds.j4]) (by simpa using h))
  | false => exact Ev.step (f := fun k => domesdayref03_Kinds.j4 k s out p n kd) (fun k => by rw [domesdayref03_Kinds.j3, if_neg (by decide)]) (Ev.step (f := fun k => domesdayref03_Kinds.l1 k s out p n kd 0) (fun k => by rw [domesdayref03_Kinds.j4]) (by simpa using h))
theorem rk_j2 (s : ByteArray) (out : List Int) (p kd : Int) (c : Nat) (hc : c < 256) (r : List Int) (h : Ev (fun k => domesdayref03_Kinds.l1 k s out p 1 (if isPlain c then 1 else kd) 0) r) : Ev (fun k => domesdayref03_Kinds.j2 k s out p (c : Int) 1 kd) r := by
  by_cases h3 : (65 ≤ c ∧ c ≤ 90) ∨ (97 ≤ c ∧ c ≤ 122) ∨ (48 ≤ c ∧ c ≤ 57)
  · rw [if_pos (show isPlain c from by rcases h3 with h | h | h; exact .inl h; exact .inr (.inl h); exact .inr (.inr (.inl h)))] at h
    refine Ev.step (f := fun k => domesdayref03_Kinds.j3 k s out p 1 kd true) (fun k => ?_) (rk_j3 s out p 1 kd true r (by simpa using h))
    rw [domesdayref03_Kinds.j2]
    repeat' split
    all_goals first | rfl | (exfalso; omega)
  · refine Ev.step (f := fun k => (domesdayref03_sign.f k (c : Int)).bind fun t => domesdayref03_Kinds.j3 k s out p 1 kd t) (fun k => ?_) (Ev.bind (f := fun k t => domesdayref03_Kinds.j3 k s out p 1 kd t) (sign_ev c hc) (rk_j3 s out p 1 kd _ r ?_))
    · rw [domesdayref03_Kinds.j2]
      repeat' split
      all_goals first | rfl | (exfalso; omega)
    · have e : (if isSign c = true then (1 : Int) else kd) = if isPlain c then 1 else kd := by
        by_cases hs : isSign c = true
        · rw [if_pos hs, if_pos (show isPlain c from .inr (.inr (.inr hs)))]
        · rw [if_neg hs, if_neg (show ¬ isPlain c from fun h => by
            rcases h with h | h | h | h
            · exact h3 (.inl h)
            · exact h3 (.inr (.inl h))
            · exact h3 (.inr (.inr h))
            · exact hs h)]
      rw [e]
      exact h
theorem sign_neg : Ev (fun k => domesdayref03_sign.f k (-1)) false := Ev.of (fun k => domesdayref03_sign.mono _ k) (show domesdayref03_sign.f 20 (-1) = some false by decide +kernel)
set_option maxRecDepth 100000 in
theorem decN_one (n b0 b1 b2 b3 : Nat) (h : (decodeN n b0 b1 b2 b3).2 = 1) : (decodeN n b0 b1 b2 b3).1 = 65533 ∨ ((decodeN n b0 b1 b2 b3).1 = b0 ∧ b0 < 128) := by
  unfold decodeN at h ⊢
  repeat' split at h
  all_goals (repeat' split)
  all_goals first | exact .inl rfl | (right; exact ⟨rfl, by assumption⟩) | (simp at h; done) | (exfalso; omega)
theorem rkinds_l0 (s : ByteArray) (hs : s.size ≤ 100000) : ∀ (m p : Nat) (out : List Int), s.size ≤ p + m → p ≤ s.size → out.length = p →
    Ev (fun k => domesdayref03_Kinds.l0 k s out (p : Int)) (out ++ kindsL m ((bl s).drop p)) := by
  intro m
  induction m with
  | zero =>
    intro p out h1 h2 h3
    refine Ev.step (f := fun _ => some out) (fun k => ?_) (by simpa [kindsL] using Ev.now out)
    rw [domesdayref03_Kinds.l0, if_neg (by omega)]
  | succ m ih =>
    intro p out h1 h2 h3
    by_cases hp : p < s.size
    · have hne := drop_ne s p hp
      have hd : decodeGo (s.extract p s.size) = decL ((bl s).drop p) := by rw [dec_eq _ (ext_pos s p hp)]; show decL (s.extract p s.size).data.toList = _; rw [ext_list]
      have hge := dec_ge ((bl s).drop p)
      have hle4 := dec_le4 ((bl s).drop p)
      have hlen := dec_len _ hne
      rw [List.length_drop, len_list] at hlen
      have hg : g0 ((bl s).drop p) 0 = g0 (bl s) p := g0_drop _ _ _
      have h1n := decN_one ((bl s).drop p).length (g0 ((bl s).drop p) 0) (g0 ((bl s).drop p) 1) (g0 ((bl s).drop p) 2) (g0 ((bl s).drop p) 3)
      have hc := g0_lt ((bl s).drop p) 0
      rw [kindsL, if_neg hne]
      have go : Ev (fun k => domesdayref03_Kinds.l1 k s out (p : Int) ((decL ((bl s).drop p)).2 : Int) (tokK ((bl s).drop p)) ((0 : Nat) : Int)) (out ++ (List.replicate (decL ((bl s).drop p)).2 (tokK ((bl s).drop p)) ++ kindsL m (((bl s).drop p).drop (decL ((bl s).drop p)).2))) := by
        refine rkinds_l1 s p _ _ hle4 _ (decL ((bl s).drop p)).2 0 out (by omega) (by omega) ?_
        rw [← List.append_assoc, List.drop_drop, wrap_id _ (by omega) (by omega), show (p : Int) + ((decL ((bl s).drop p)).2 : Int) = ((p + (decL ((bl s).drop p)).2 : Nat) : Int) from by omega]
        exact ih _ _ (by omega) (by omega) (by simp [h3])
      have hNx : Ev (fun k => domesdayref02_Next.f k (s.extract p s.size)) (nx (s.extract p s.size)) := ⟨20, fun k hk => next_eq _ (ext_pos s p hp) k hk⟩
      have hnx : nx (s.extract p s.size) = if (decL ((bl s).drop p)).1 = 65533 ∧ (decL ((bl s).drop p)).2 ≤ 1 then (-1, 1) else (((decL ((bl s).drop p)).1 : Int), ((decL ((bl s).drop p)).2 : Int)) := by unfold nx; rw [hd]
      have hdef : decodeN ((bl s).drop p).length (g0 ((bl s).drop p) 0) (g0 ((bl s).drop p) 1) (g0 ((bl s).drop p) 2) (g0 ((bl s).drop p) 3) = decL ((bl s).drop p) := rfl
      rw [hdef] at h1n
      generalize hD : decL ((bl s).drop p) = D at *
      obtain ⟨r, n⟩ := D
      simp only at hge hle4 hlen go hnx h1n ⊢
      refine Ev.step (f := fun k => (domesdayref02_Next.f k (s.extract p s.size)).bind fun bt131 => (if bt131.1 < 0 then (domesdayref03_Kinds.j1 k s out (p : Int) bt131.1 bt131.2 0 true) else (if bt131.1 < 32 then (domesdayref03_Kinds.j1 k s out (p : Int) bt131.1 bt131.2 0 true) else (domesdayref03_Kinds.j1 k s out (p : Int) bt131.1 bt131.2 0 (bt131.1 == 127))))) (fun k => ?_) (Ev.bind (f := fun k (bt131 : Int × Int) => (if bt131.1 < 0 then (domesdayref03_Kinds.j1 k s out (p : Int) bt131.1 bt131.2 0 true) else (if bt131.1 < 32 then (domesdayref03_Kinds.j1 k s out (p : Int) bt131.1 bt131.2 0 true) else (domesdayref03_Kinds.j1 k s out (p : Int) bt131.1 bt131.2 0 (bt131.1 == 127))))) hNx ?_)
      · rw [domesdayref03_Kinds.l0, if_pos (by omega), if_pos (by omega), if_pos (by omega), Int.toNat_natCast]
      · rw [hnx]
        by_cases hb : r = 65533 ∧ n ≤ 1
        · rw [if_pos hb]
          have hK : tokK ((bl s).drop p) = 2 := by rw [tokK_of hD, if_pos hb]
          rw [hK] at go
          have hn1 : n = 1 := by omega
          rw [hn1] at go
          refine Ev.congr (f := fun k => domesdayref03_Kinds.j1 k s out (p : Int) (-1) 1 0 true) (fun k => rfl) ?_
          refine Ev.step (f := fun k => domesdayref03_Kinds.j2 k s out (p : Int) (-1) 1 2) (fun k => by rw [domesdayref03_Kinds.j1, if_pos rfl]) ?_
          refine Ev.step (f := fun k => (domesdayref03_sign.f k (-1)).bind fun t => domesdayref03_Kinds.j3 k s out (p : Int) 1 2 t) (fun k => ?_) (Ev.bind (f := fun k t => domesdayref03_Kinds.j3 k s out (p : Int) 1 2 t) sign_neg (rk_j3 s out p 1 2 false _ ?_))
          · rw [domesdayref03_Kinds.j2]; rfl
          · rw [hn1, hK]; exact go
        · rw [if_neg hb]
          by_cases h1' : n = 1
          · have hr : r = g0 (bl s) p ∧ r < 128 := by
              rcases h1n h1' with h | ⟨h, h'⟩
              · exact absurd ⟨h, by omega⟩ hb
              · rw [hg] at h h'
                exact ⟨h, by omega⟩
            have hK : tokK ((bl s).drop p) = ascK r := by rw [tokK_of hD, if_neg hb, if_pos h1', hg, hr.1]
            rw [hK, h1'] at go ⊢
            obtain ⟨_, hr2⟩ := hr
            have fin : ∀ kd : Int, (if isPlain r then 1 else kd) = ascK r → Ev (fun k => domesdayref03_Kinds.j2 k s out (p : Int) (r : Int) 1 kd) (out ++ (List.replicate 1 (ascK r) ++ kindsL m (((bl s).drop p).drop 1))) := by
              intro kd he
              refine rk_j2 s out p kd r (by omega) _ ?_
              rw [he]
              exact go
            by_cases h2 : r < 32 ∨ r = 127
            · refine Ev.congr (f := fun k => domesdayref03_Kinds.j1 k s out (p : Int) (r : Int) 1 0 true) (fun k => ?_) (Ev.step (f := fun k => domesdayref03_Kinds.j2 k s out (p : Int) (r : Int) 1 2) (fun k => by rw [domesdayref03_Kinds.j1, if_pos rfl]) (fin 2 ?_))
              · show (if (r : Int) < 0 then _ else _) = _
                rw [if_neg (by omega)]
                by_cases h4 : (r : Int) < 32
                · rw [if_pos h4]; rfl
                · rw [if_neg h4, show ((r : Int) == 127) = true from beq_iff_eq.2 (by omega)]; rfl
              · unfold ascK
                by_cases h5 : isPlain r
                · rw [if_pos h5, if_pos h5]
                · rw [if_neg h5, if_neg h5, if_pos h2]
            · refine Ev.congr (f := fun k => domesdayref03_Kinds.j1 k s out (p : Int) (r : Int) 1 0 false) (fun k => ?_) (Ev.step (f := fun k => domesdayref03_Kinds.j2 k s out (p : Int) (r : Int) 1 0) (fun k => by rw [domesdayref03_Kinds.j1, if_neg (by decide)]) (fin 0 ?_))
              · show (if (r : Int) < 0 then _ else _) = _
                rw [if_neg (by omega), if_neg (by omega), show ((r : Int) == 127) = false from beq_eq_false_iff_ne.2 (by omega)]; rfl
              · unfold ascK
                by_cases h5 : isPlain r
                · rw [if_pos h5, if_pos h5]
                · rw [if_neg h5, if_neg h5, if_neg h2]
          · have hK : tokK ((bl s).drop p) = 1 := by rw [tokK_of hD, if_neg hb, if_neg h1']
            rw [hK] at go ⊢
            have big : ∀ kd : Int, Ev (fun k => domesdayref03_Kinds.j2 k s out (p : Int) (r : Int) (n : Int) kd) (out ++ (List.replicate n 1 ++ kindsL m (((bl s).drop p).drop n))) := by
              intro kd
              exact Ev.step (f := fun k => domesdayref03_Kinds.j3 k s out (p : Int) (n : Int) kd true) (fun k => by rw [domesdayref03_Kinds.j2, if_pos (by omega)]) (rk_j3 s out p n kd true _ go)
            have any : ∀ b : Bool, Ev (fun k => domesdayref03_Kinds.j1 k s out (p : Int) (r : Int) (n : Int) 0 b) (out ++ (List.replicate n 1 ++ kindsL m (((bl s).drop p).drop n))) := by
              intro b
              cases b with
              | true => exact Ev.step (f := fun k => domesdayref03_Kinds.j2 k s out (p : Int) (r : Int) (n : Int) 2) (fun k => by rw [domesdayref03_Kinds.j1, if_pos rfl]) (big 2)
              | false => exact Ev.step (f := fun k => domesdayref03_Kinds.j2 k s out (p : Int) (r : Int) (n : Int) 0) (fun k => by rw [domesdayref03_Kinds.j1, if_neg (by decide)]) (big 0)
            by_cases h4 : (r : Int) < 32
            · exact Ev.congr (f := fun k => domesdayref03_Kinds.j1 k s out (p : Int) (r : Int) (n : Int) 0 true) (fun k => by show (if (r : Int) < 0 then _ else _) = _; rw [if_neg (by omega), if_pos h4]) (any true)
            · exact Ev.congr (f := fun k => domesdayref03_Kinds.j1 k s out (p : Int) (r : Int) (n : Int) 0 ((r : Int) == 127)) (fun k => by show (if (r : Int) < 0 then _ else _) = _; rw [if_neg (by omega), if_neg h4]) (any _)
    · refine Ev.step (f := fun _ => some out) (fun k => ?_) ?_
      · rw [domesdayref03_Kinds.l0, if_neg (by omega)]
      · rw [List.drop_eq_nil_of_le (by rw [len_list]; omega), kindsL, if_pos rfl, List.append_nil]
        exact Ev.now out
theorem rkinds_ev (s : ByteArray) (hs : s.size ≤ 100000) : Ev (fun k => domesdayref03_Kinds.f k s) (kL s) := by
  have := rkinds_l0 s hs s.size 0 [] (by omega) (by omega) rfl
  rw [List.nil_append, List.drop_zero] at this
  exact this
end Go.Proofs.YtkhbgfnbkdonlaaDoor.Pure
