/- P2.1: of all bytes the width, and each beginning that isn't wider, are the chapter's (200 bytes). No condition. -/
import Derived.Test.YtngcecmfgjgigaaDoorQWidthTextsx2
import Derived.Test.YtngcecmfgjgigaaDoorPureWidthRunes
import Derived.Shelf.Strings.MapAny
import Derived.Shelf.Unicode.DecodeLastEight
import Derived.Lib.TrimU
namespace Go.Proofs.YtngcecmfgjgigaaDoor.PureTexts
open Go.RowKit Go.Lib Go.Proofs.YtngcecmfgjgigaaDoor.WMath Go.Proofs.YtngcecmfgjgigaaDoor.PureRunes Go.Proofs.YtngcecmfgjgigaaDoor.QWidthTexts Go.Proofs.YtngcecmfgjgigaaDoor.Ext Go.Proofs.YtngcecmfgjgigaaDoorW.PrintWords Go.Proofs.YtngcecmfgjgigaaDoorW.PrintLast Go.Proofs.YtngcecmfgjgigaaDoorW.PrintMore
set_option linter.unusedVariables false
set_option linter.unusedSimpArgs false

theorem bt_get (s : ByteArray) (i : Nat) (h : i < s.size) : bt s (i : Int) = ((s.get! i).toNat : Int) := by
  unfold bt
  rw [dif_pos (by simpa using h)]
  simp [ByteArray.get!, ByteArray.getElem_eq_getElem_data, getElem!_pos, h]
theorem tmod_nn (x d : Int) (h : 0 ≤ x) : Int.tmod x d = x % d := Int.tmod_eq_emod_of_nonneg h
/-- The character that a text begins with: -1 where it is bad. -/
def nx (x : ByteArray) : Int × Int := if (decodeGo x).1 = 65533 ∧ (decodeGo x).2 ≤ 1 then (-1, 1) else (((decodeGo x).1 : Int), ((decodeGo x).2 : Int))
theorem byte_lt (x : ByteArray) (i : Nat) : (x.get! i).toNat < 256 := UInt8.toNat_lt _
/-- The loop over the bytes behind the first one: each is one more of six bits. -/
theorem step_l (x : ByteArray) (n i : Nat) (r least : Int) (k : Nat) (hi : i < n) (hn : n ≤ x.size) (hn4 : n ≤ 4) (r0 : 0 ≤ r) (r1 : r < 100000) :
    domesdayref02_Next.l0 (k + 1) x (n : Int) r least (i : Int) = if (x.get! i).toNat / 64 = 2 then domesdayref02_Next.l0 k x (n : Int) (r * 64 + ((x.get! i).toNat % 64 : Nat)) least ((i + 1 : Nat) : Int) else some (-1, 1) := by
  have hb := byte_lt x i
  rw [domesdayref02_Next.l0, if_pos (by omega), if_pos (by omega), if_pos (by omega), bt_get x i (by omega), wrap_id (((x.get! i).toNat : Nat) : Int) (by omega) (by omega), tmod_nn _ _ (by omega), wrap_id (r * 64) (by omega) (by omega), wrap_id _ (by omega) (by omega), wrap_id ((i : Int) + 1) (by omega) (by omega)]
  by_cases c1 : (((x.get! i).toNat : Nat) : Int) < 128
  · rw [if_pos c1, if_neg (by omega)]
  · rw [if_neg c1]
    by_cases c2 : (((x.get! i).toNat : Nat) : Int) ≥ 192
    · rw [if_pos c2, if_neg (by omega)]
    · rw [if_neg c2, if_pos (by omega), show ((i : Int) + 1) = ((i + 1 : Nat) : Int) from by omega, show (((x.get! i).toNat : Nat) : Int) % 64 = (((x.get! i).toNat % 64 : Nat) : Int) from by omega]
theorem last_l (x : ByteArray) (n : Nat) (r least : Int) (k : Nat) :
    domesdayref02_Next.l0 (k + 2) x (n : Int) r least (n : Int) = if r < least ∨ r > 1114111 ∨ (r ≥ 55296 ∧ r ≤ 57343) then some (-1, 1) else some (r, (n : Int)) := by
  rw [domesdayref02_Next.l0, if_neg (by omega), domesdayref02_Next.j5, domesdayref02_Next.j5, domesdayref02_Next.j5]
  by_cases c1 : r < least
  · rw [if_pos c1, if_pos (Or.inl c1)]; rfl
  · rw [if_neg c1]
    by_cases c2 : r > 1114111
    · rw [if_pos c2, if_pos (Or.inr (Or.inl c2))]; rfl
    · rw [if_neg c2]
      by_cases c3 : r ≥ 55296
      · rw [if_pos c3]
        by_cases c4 : r ≤ 57343
        · rw [decide_eq_true c4, if_pos rfl, if_pos (Or.inr (Or.inr ⟨c3, c4⟩))]
        · rw [decide_eq_false c4, if_neg (by simp), if_neg (by omega)]
      · rw [if_neg c3, if_neg (by simp), if_neg (by omega)]
theorem start_j (x : ByteArray) (n : Nat) (r least : Int) (k : Nat) (hn : 0 < n) (hn4 : n ≤ 4) :
    domesdayref02_Next.j2 (k + 2) x (n : Int) r least = if n ≤ x.size then domesdayref02_Next.l0 k x (n : Int) r least 1 else some (-1, 1) := by
  rw [domesdayref02_Next.j2, if_neg (by omega), domesdayref02_Next.j3]
  by_cases c : n ≤ x.size
  · rw [decide_eq_false (by omega), if_neg (by simp), if_pos c]
  · rw [decide_eq_true (by omega), if_pos rfl, if_neg c]
set_option maxRecDepth 100000 in
theorem dec2 (n b0 b1 b2 b3 : Nat) (h : 192 ≤ b0) (h' : b0 < 224) : decodeN n b0 b1 b2 b3 = if 1 < n ∧ b1 / 64 = 2 ∧ b0 % 32 * 64 + b1 % 64 ≥ 128 then (b0 % 32 * 64 + b1 % 64, 2) else (65533, 1) := by
  unfold decodeN
  repeat' split
  all_goals first | rfl | (exfalso; omega)
set_option maxRecDepth 100000 in
theorem dec3 (n b0 b1 b2 b3 : Nat) (h : 224 ≤ b0) (h' : b0 < 240) : decodeN n b0 b1 b2 b3 = if 2 < n ∧ b1 / 64 = 2 ∧ b2 / 64 = 2 ∧ b0 % 16 * 4096 + b1 % 64 * 64 + b2 % 64 ≥ 2048 ∧ (b0 % 16 * 4096 + b1 % 64 * 64 + b2 % 64 < 55296 ∨ 57344 ≤ b0 % 16 * 4096 + b1 % 64 * 64 + b2 % 64) then (b0 % 16 * 4096 + b1 % 64 * 64 + b2 % 64, 3) else (65533, 1) := by
  unfold decodeN
  repeat' split
  all_goals first | rfl | (exfalso; omega)
set_option maxRecDepth 100000 in
theorem dec4 (n b0 b1 b2 b3 : Nat) (h : 240 ≤ b0) (h' : b0 < 248) : decodeN n b0 b1 b2 b3 = if 3 < n ∧ b1 / 64 = 2 ∧ b2 / 64 = 2 ∧ b3 / 64 = 2 ∧ b0 % 8 * 262144 + b1 % 64 * 4096 + b2 % 64 * 64 + b3 % 64 ≥ 65536 ∧ b0 % 8 * 262144 + b1 % 64 * 4096 + b2 % 64 * 64 + b3 % 64 ≤ 1114111 then (b0 % 8 * 262144 + b1 % 64 * 4096 + b2 % 64 * 64 + b3 % 64, 4) else (65533, 1) := by
  unfold decodeN
  repeat' split
  all_goals first | rfl | (exfalso; omega)
set_option maxRecDepth 100000 in
theorem dec0 (n b0 b1 b2 b3 : Nat) (h : 128 ≤ b0) (h' : b0 < 192 ∨ 248 ≤ b0) (hb : b0 < 256) : decodeN n b0 b1 b2 b3 = (65533, 1) := by
  unfold decodeN
  repeat' split
  all_goals first | rfl | (exfalso; omega)
theorem nx_if (C : Prop) [Decidable C] (v n : Nat) (hn : 2 ≤ n) : (if (if C then (v, n) else ((65533, 1) : Nat × Nat)).1 = 65533 ∧ (if C then (v, n) else ((65533, 1) : Nat × Nat)).2 ≤ 1 then ((-1, 1) : Int × Int) else (((if C then (v, n) else ((65533, 1) : Nat × Nat)).1 : Int), ((if C then (v, n) else ((65533, 1) : Nat × Nat)).2 : Int))) = if C then ((v : Int), (n : Int)) else (-1, 1) := by
  by_cases c : C
  · simp only [if_pos c]
    rw [if_neg (fun h => by have := h.2; omega)]
  · simp only [if_neg c]
    rfl
theorem next_eq (x : ByteArray) (h : 0 < x.size) (k : Nat) (hk : 20 ≤ k) : domesdayref02_Next.f k x = some (nx x) := by
  obtain ⟨k, rfl⟩ : ∃ j, k = j + 12 := ⟨k - 12, by omega⟩
  have e : decodeGo x = decodeN x.size (x.get! 0).toNat (x.get! 1).toNat (x.get! 2).toNat (x.get! 3).toNat := by
    unfold decodeGo; rw [if_neg (by omega), decode_at]; simp
  have b0 := byte_lt x 0
  have b1 := byte_lt x 1
  have b2 := byte_lt x 2
  have b3 := byte_lt x 3
  have hb : bt x 0 = ((x.get! 0).toNat : Int) := bt_get x 0 h
  unfold nx
  rw [e, domesdayref02_Next.f, if_pos (by omega), hb, wrap_id _ (by omega) (by omega)]
  by_cases c0 : (x.get! 0).toNat < 128
  · rw [if_pos (by omega)]
    unfold decodeN
    rw [if_pos c0, if_neg (by omega)]
    rfl
  · rw [if_neg (by omega)]
    by_cases c2 : 192 ≤ (x.get! 0).toNat ∧ (x.get! 0).toNat < 224
    · rw [dec2 _ _ _ _ _ c2.1 c2.2, nx_if _ _ _ (by omega), if_pos (by omega), decide_eq_true (by omega), domesdayref02_Next.j0, if_pos rfl, tmod_nn _ _ (by omega), show (2 : Int) = ((2 : Nat) : Int) from rfl, start_j x 2 _ _ _ (by omega) (by omega)]
      by_cases s2 : 2 ≤ x.size
      · rw [if_pos s2, show (1 : Int) = ((1 : Nat) : Int) from rfl, step_l x 2 1 _ _ _ (by omega) s2 (by omega) (by omega) (by omega), last_l]
        repeat' split
        all_goals first | rfl | (exfalso; omega) | (congr 2 <;> omega)
      · rw [if_neg s2, if_neg (by omega)]
    · by_cases c3 : 224 ≤ (x.get! 0).toNat ∧ (x.get! 0).toNat < 240
      · rw [dec3 _ _ _ _ _ c3.1 c3.2, nx_if _ _ _ (by omega), if_pos (by omega), decide_eq_false (by omega), domesdayref02_Next.j0, if_neg (by simp), if_pos (by omega), decide_eq_true (by omega), domesdayref02_Next.j1, if_pos rfl, tmod_nn _ _ (by omega), show (3 : Int) = ((3 : Nat) : Int) from rfl, start_j x 3 _ _ _ (by omega) (by omega)]
        by_cases s2 : 3 ≤ x.size
        · rw [if_pos s2, show (1 : Int) = ((1 : Nat) : Int) from rfl, step_l x 3 1 _ _ _ (by omega) s2 (by omega) (by omega) (by omega), step_l x 3 2 _ _ _ (by omega) s2 (by omega) (by omega) (by omega), last_l]
          repeat' split
          all_goals first | rfl | (exfalso; omega) | (congr 2 <;> omega)
        · rw [if_neg s2, if_neg (by omega)]
      · by_cases c4 : 240 ≤ (x.get! 0).toNat ∧ (x.get! 0).toNat < 248
        · rw [dec4 _ _ _ _ _ c4.1 c4.2, nx_if _ _ _ (by omega), if_pos (by omega), decide_eq_false (by omega), domesdayref02_Next.j0, if_neg (by simp), if_pos (by omega), decide_eq_false (by omega), domesdayref02_Next.j1, if_neg (by simp), if_pos (by omega), if_pos (by omega), tmod_nn _ _ (by omega), show (4 : Int) = ((4 : Nat) : Int) from rfl, start_j x 4 _ _ _ (by omega) (by omega)]
          by_cases s2 : 4 ≤ x.size
          · rw [if_pos s2, show (1 : Int) = ((1 : Nat) : Int) from rfl, step_l x 4 1 _ _ _ (by omega) s2 (by omega) (by omega) (by omega), step_l x 4 2 _ _ _ (by omega) s2 (by omega) (by omega) (by omega), step_l x 4 3 _ _ _ (by omega) s2 (by omega) (by omega) (by omega), last_l]
            repeat' split
            all_goals first | rfl | (exfalso; omega) | (congr 2 <;> omega)
          · rw [if_neg s2, if_neg (by omega)]
        · rw [dec0 _ _ _ _ _ (by omega) (by omega) b0, show (if ((65533, 1) : Nat × Nat).1 = 65533 ∧ ((65533, 1) : Nat × Nat).2 ≤ 1 then ((-1, 1) : Int × Int) else ((((65533, 1) : Nat × Nat).1 : Int), (((65533, 1) : Nat × Nat).2 : Int))) = (-1, 1) from rfl]
          have fin : ∀ k', domesdayref02_Next.j2 (k' + 2) x 0 0 0 = some (-1, 1) := by
            intro k'
            rw [domesdayref02_Next.j2, if_pos rfl, domesdayref02_Next.j3, if_pos rfl]
          by_cases c5 : (x.get! 0).toNat < 192
          · rw [if_neg (by omega), domesdayref02_Next.j0, if_neg (by simp), if_neg (by omega), domesdayref02_Next.j1, if_neg (by simp), if_neg (by omega), fin]
          · rw [if_pos (by omega), decide_eq_false (by omega), domesdayref02_Next.j0, if_neg (by simp), if_pos (by omega), decide_eq_false (by omega), domesdayref02_Next.j1, if_neg (by simp), if_pos (by omega), if_neg (by omega), fin]
theorem nx_len (x : ByteArray) (h : 0 < x.size) : 1 ≤ (nx x).2 ∧ (nx x).2 ≤ 4 := by
  have h4 := decodeGo_le4 x
  have h1 : 1 ≤ (decodeGo x).2 := by unfold decodeGo; rw [if_neg (by omega)]; exact width_pos x 0
  unfold nx
  split
  · exact ⟨by decide, by decide⟩
  · exact ⟨by show (1 : Int) ≤ ((decodeGo x).2 : Int); omega, by show ((decodeGo x).2 : Int) ≤ 4; omega⟩
theorem nx_decode (s : ByteArray) (pos : Nat) (h : pos < s.size) : (Utf8.decode s pos).2 = (nx (s.extract pos s.size)).2.toNat := by
  have h1 := width_pos s pos
  unfold nx
  rw [decodeGo_extract s pos h]
  split
  · next g => show _ = 1; omega
  · simp
theorem at_eq (x : ByteArray) : width_at.f x = some (wd (nx x).1, (nx x).2) := by
  unfold width_at.f nx
  by_cases g : (decodeGo x).1 = 65533 ∧ (decodeGo x).2 ≤ 1
  · rw [if_pos g, if_pos g]; rfl
  · rw [if_neg g, if_neg g, rune_eq _ 100 (by omega), Option.bind_some]
theorem ext_size (s : ByteArray) (pos : Nat) (h : pos < s.size) : 0 < (s.extract pos s.size).size := by rw [ByteArray.size_extract]; omega
def ofS : Nat → ByteArray → Nat → Int → Int
  | 0, _, _, acc => acc
  | m + 1, s, pos, acc => if pos < s.size then ofS m s (pos + (nx (s.extract pos s.size)).2.toNat) (wrap64 (acc + wd (nx (s.extract pos s.size)).1)) else acc
theorem of_l (s : ByteArray) : ∀ m pos k : Nat, ∀ acc : Int, s.size - pos ≤ m → m < k → width_Of.l k s pos acc = some (ofS m s pos acc) := by
  intro m
  induction m with
  | zero =>
    intro pos k acc h1 hk
    obtain ⟨k, rfl⟩ : ∃ j, k = j + 1 := ⟨k - 1, by omega⟩
    rw [width_Of.l, if_neg (by omega)]; rfl
  | succ m ih =>
    intro pos k acc h1 hk
    obtain ⟨k, rfl⟩ : ∃ j, k = j + 1 := ⟨k - 1, by omega⟩
    rw [width_Of.l, ofS]
    by_cases g : pos < s.size
    · have hn := nx_len _ (ext_size s pos g)
      rw [if_pos g, if_pos g, at_eq, Option.bind_some, nx_decode s pos g]
      exact ih _ k _ (by omega) (by omega)
    · rw [if_neg g, if_neg g]
theorem rof_l (s : ByteArray) (hs : s.size ≤ 1000000) : ∀ m pos k : Nat, ∀ acc : Int, s.size - pos ≤ m → m + 30 < k → domesdayref02_Of.l0 k s acc (pos : Int) = some (ofS m s pos acc) := by
  intro m
  induction m with
  | zero =>
    intro pos k acc h1 hk
    obtain ⟨k, rfl⟩ : ∃ j, k = j + 1 := ⟨k - 1, by omega⟩
    rw [domesdayref02_Of.l0, if_neg (by omega)]; rfl
  | succ m ih =>
    intro pos k acc h1 hk
    obtain ⟨k, rfl⟩ : ∃ j, k = j + 1 := ⟨k - 1, by omega⟩
    rw [domesdayref02_Of.l0, ofS]
    by_cases g : pos < s.size
    · have hn := nx_len _ (ext_size s pos g)
      rw [if_pos g, if_pos (by omega), if_pos (by omega), if_pos (by omega), Int.toNat_natCast, next_eq _ (ext_size s pos g) k (by omega), Option.bind_some, domesdayref02_Width.f, Option.bind_some, wrap_id ((pos : Int) + _) (by omega) (by omega),
        show (pos : Int) + (nx (s.extract pos s.size)).2 = ((pos + (nx (s.extract pos s.size)).2.toNat : Nat) : Int) from by omega]
      exact ih _ k _ (by omega) (by omega)
    · rw [if_neg g, if_neg (by omega)]
def ofB (s : ByteArray) : Int := ofS s.size s 0 0
theorem of_eq (s : ByteArray) : width_Of.f s = some (ofB s) := of_l s s.size 0 (s.size + 1) 0 (by omega) (by omega)
theorem rof_eq (s : ByteArray) (hs : s.size ≤ 1000000) (k : Nat) (hk : s.size + 30 < k) : domesdayref02_Of.f k s = some (ofB s) := rof_l s hs s.size 0 k 0 (by omega) hk
def cutS : Nat → ByteArray → Int → Nat → Int → ByteArray
  | 0, s, _, _, _ => s
  | m + 1, s, most, pos, acc => if pos < s.size then (if wrap64 (acc + wd (nx (s.extract pos s.size)).1) > most then s.extract 0 pos else cutS m s most (pos + (nx (s.extract pos s.size)).2.toNat) (wrap64 (acc + wd (nx (s.extract pos s.size)).1))) else s
theorem cut_l (s : ByteArray) (most : Int) : ∀ m pos k : Nat, ∀ acc : Int, s.size - pos ≤ m → m < k → width_Cut.l k s most pos acc = some (cutS m s most pos acc) := by
  intro m
  induction m with
  | zero =>
    intro pos k acc h1 hk
    obtain ⟨k, rfl⟩ : ∃ j, k = j + 1 := ⟨k - 1, by omega⟩
    rw [width_Cut.l, if_neg (by omega)]; rfl
  | succ m ih =>
    intro pos k acc h1 hk
    obtain ⟨k, rfl⟩ : ∃ j, k = j + 1 := ⟨k - 1, by omega⟩
    rw [width_Cut.l, cutS]
    by_cases g : pos < s.size
    · have hn := nx_len _ (ext_size s pos g)
      rw [if_pos g, if_pos g, at_eq, Option.bind_some, nx_decode s pos g]
      simp only
      by_cases c : wrap64 (acc + wd (nx (s.extract pos s.size)).1) > most
      · rw [if_pos c, if_pos c]
      · rw [if_neg c, if_neg c]
        exact ih _ k _ (by omega) (by omega)
    · rw [if_neg g, if_neg g]
theorem rcut_l (s : ByteArray) (hs : s.size ≤ 1000000) (most : Int) : ∀ m pos k : Nat, ∀ acc : Int, s.size - pos ≤ m → m + 30 < k → domesdayref02_Cut.l0 k s most acc (pos : Int) = some (cutS m s most pos acc) := by
  intro m
  induction m with
  | zero =>
    intro pos k acc h1 hk
    obtain ⟨k, rfl⟩ : ∃ j, k = j + 1 := ⟨k - 1, by omega⟩
    rw [domesdayref02_Cut.l0, if_neg (by omega)]; rfl
  | succ m ih =>
    intro pos k acc h1 hk
    obtain ⟨k, rfl⟩ : ∃ j, k = j + 1 := ⟨k - 1, by omega⟩
    rw [domesdayref02_Cut.l0, cutS]
    by_cases g : pos < s.size
    · have hn := nx_len _ (ext_size s pos g)
      rw [if_pos g, if_pos (by omega), if_pos (by omega), if_pos (by omega), Int.toNat_natCast, next_eq _ (ext_size s pos g) k (by omega), Option.bind_some, domesdayref02_Width.f, Option.bind_some, wrap_id ((pos : Int) + _) (by omega) (by omega),
        show (pos : Int) + (nx (s.extract pos s.size)).2 = ((pos + (nx (s.extract pos s.size)).2.toNat : Nat) : Int) from by omega]
      by_cases c : wrap64 (acc + wd (nx (s.extract pos s.size)).1) > most
      · rw [if_pos c, if_pos c]
      · rw [if_neg c, if_neg c]
        exact ih _ k _ (by omega) (by omega)
    · rw [if_neg g, if_neg (by omega)]
end Go.Proofs.YtngcecmfgjgigaaDoor.PureTexts
namespace Go.Proofs.YtngcecmfgjgigaaDoor.Pure
open Go.RowKit Go.Proofs.YtngcecmfgjgigaaDoor.PureTexts Go.Proofs.YtngcecmfgjgigaaDoor.QWidthTexts Go.Proofs.YtngcecmfgjgigaaDoor.Ext
theorem WidthTexts (s : ByteArray) (most : Int) : ∃ k, domesdaylaw02_WidthTexts.f k s most = some true := by
  refine ⟨1001, ?_⟩
  rw [domesdaylaw02_WidthTexts.f, domesdaylaw02_awake.f, Option.bind_some, if_pos rfl, domesdaylaw02_WidthTexts.j0]
  by_cases g : (s.size : Int) > 200
  · rw [decide_eq_true g, if_pos rfl, domesdaylaw02_awake.f]; rfl
  · rw [decide_eq_false g, if_neg (by simp), of_eq, Option.bind_some, rof_eq s (by omega) 1000 (by omega), Option.bind_some, if_pos rfl]
    have c1 : width_Cut.f s most = some (cutS s.size s most 0 0) := cut_l s most s.size 0 (s.size + 1) 0 (by omega) (by omega)
    have c2 : domesdayref02_Cut.f 1000 s most = some (cutS s.size s most 0 0) := rcut_l s (by omega) most s.size 0 1000 0 (by omega) (by omega)
    rw [c1, Option.bind_some, c2, Option.bind_some]
    simp
end Go.Proofs.YtngcecmfgjgigaaDoor.Pure
