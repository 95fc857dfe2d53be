/- The plain law of the program's Shell, ahead of its walk. -/
import Derived.Test.YtkhbgfnbkdonlaaDoorPureQuo3
namespace Go.Proofs.YtkhbgfnbkdonlaaDoor.Pure
open Go.RowKit Go.Lib Go.Proofs.YtkhbgfnbkdonlaaDoor.QQuo Go.Proofs.YtkhbgfnbkdonlaaDoorW.PrintWords Go.Proofs.YtkhbgfnbkdonlaaDoorW.PrintLast Go.Proofs.YtkhbgfnbkdonlaaDoorW.PrintMore
set_option linter.unusedVariables false
set_option linter.unusedSimpArgs false

theorem toList_bl (a : ByteArray) : a.toList = bl a := ByteArray.toList_eq ..
theorem ext0 (a : ByteArray) (n : Nat) : bl (a.extract 0 n) = (bl a).take n := by rw [ext_eq, bl_B]; simp
theorem prefix_f (a b : ByteArray) : strings_HasPrefix.f a b = some ((bl a).take (bl b).length == bl b) := by
  have hlb := len_list b
  have hla := len_list a
  unfold strings_HasPrefix.f stringslite_HasPrefix.f
  by_cases h : (a.size : Int) ≥ (b.size : Int)
  · rw [if_pos h, if_pos (by omega), if_pos (by omega), Option.bind_some, toList_bl, toList_bl, Int.toNat_natCast, ext0, hlb]
  · rw [if_neg h, Option.bind_some]
    have : ((bl a).take (bl b).length == bl b) = false := by
      rw [beq_eq_false_iff_ne]
      intro e
      have := congrArg List.length e
      rw [List.length_take] at this
      have e1 : (bl a).length = a.size := hla
      have e2 : (bl b).length = b.size := hlb
      omega
    rw [this]
theorem bt_bl (a : ByteArray) (i : Nat) (h : i < a.size) : bt a (i : Int) = (((bl a).getD i 0).toNat : Int) := bt_list a i h
theorem octal_f (a : ByteArray) : quote_octal.f a = some (((octL (bl a)).1.toNat : Int), decide ((octL (bl a)).2 = 3)) := by
  have hl := len_list a
  unfold quote_octal.f
  by_cases h : (a.size : Int) < 3
  · rw [if_pos h]
    have : octL (bl a) = (0, 0) := by
      have h' : (bl a).length < 3 := by have : (bl a).length = a.size := hl; omega
      match hb : bl a, h' with
      | [], _ => rfl
      | [_], _ => rfl
      | [_, _], _ => rfl
      | _ :: _ :: _ :: _, h => exact absurd h (by simp)
    rw [this]
    rfl
  · have h' : 3 ≤ (bl a).length := by have : (bl a).length = a.size := hl; omega
    have b0 := bt_bl a 0 (by omega)
    have b1 := bt_bl a 1 (by omega)
    have b2 := bt_bl a 2 (by omega)
    match hb : bl a, h' with
    | x :: y :: z :: t, _ =>
    rw [hb] at b0 b1 b2
    have b0' : bt a 0 = (x.toNat : Int) := b0
    have b1' : bt a 1 = (y.toNat : Int) := b1
    have b2' : bt a 2 = (z.toNat : Int) := b2
    rw [if_neg h, if_pos (by omega), if_pos (show 1 < (a.size : Int) by omega), if_pos (show 2 < (a.size : Int) by omega), b0', b1', b2']
    have hx := UInt8.toNat_lt x
    have hy := UInt8.toNat_lt y
    have hz := UInt8.toNat_lt z
    have cx : (48 ≤ x ∧ x ≤ 51) ↔ (48 ≤ x.toNat ∧ x.toNat ≤ 51) := by
      rw [UInt8.le_iff_toNat_le, UInt8.le_iff_toNat_le]; exact Iff.rfl
    have cy : (48 ≤ y ∧ y ≤ 55) ↔ (48 ≤ y.toNat ∧ y.toNat ≤ 55) := by
      rw [UInt8.le_iff_toNat_le, UInt8.le_iff_toNat_le]; exact Iff.rfl
    have cz : (48 ≤ z ∧ z ≤ 55) ↔ (48 ≤ z.toNat ∧ z.toNat ≤ 55) := by
      rw [UInt8.le_iff_toNat_le, UInt8.le_iff_toNat_le]; exact Iff.rfl
    have hc : (48 ≤ x ∧ x ≤ 51 ∧ 48 ≤ y ∧ y ≤ 55 ∧ 48 ≤ z ∧ z ≤ 55) ↔ ((48 ≤ x.toNat ∧ x.toNat ≤ 51) ∧ (48 ≤ y.toNat ∧ y.toNat ≤ 55) ∧ (48 ≤ z.toNat ∧ z.toNat ≤ 55)) := by
      rw [← cx, ← cy, ← cz]
      constructor
      · rintro ⟨a, b, c, d, e, f⟩; exact ⟨⟨a, b⟩, ⟨c, d⟩, e, f⟩
      · rintro ⟨⟨a, b⟩, ⟨c, d⟩, e, f⟩; exact ⟨a, b, c, d, e, f⟩
    have hO : octL (x :: y :: z :: t) = if 48 ≤ x ∧ x ≤ 51 ∧ 48 ≤ y ∧ y ≤ 55 ∧ 48 ≤ z ∧ z ≤ 55 then ((x - 48) * 64 + (y - 48) * 8 + (z - 48), 3) else (0, 0) := rfl
    rw [hO]
    by_cases hg : 48 ≤ x ∧ x ≤ 51 ∧ 48 ≤ y ∧ y ≤ 55 ∧ 48 ≤ z ∧ z ≤ 55
    · rw [if_pos hg]
      obtain ⟨⟨x1, x2⟩, ⟨y1, y2⟩, z1, z2⟩ := hc.1 hg
      rw [if_neg (by omega), if_neg (by omega), if_neg (by omega), if_neg (by omega), if_neg (by omega), if_neg (by omega)]
      have fin : ∀ i : Fin 4, ∀ j : Fin 8, ∀ k : Fin 8, Go.bits .or .u8 (Go.bits .or .u8 ((((((48 + i.val : Nat) : Int) - 48) % 256) * 64) % 256) ((((((48 + j.val : Nat) : Int) - 48) % 256) * 8) % 256)) ((((48 + k.val : Nat) : Int) - 48) % 256) = ((i.val * 64 + j.val * 8 + k.val : Nat) : Int) := by decide +kernel
      have hf := fin ⟨x.toNat - 48, by omega⟩ ⟨y.toNat - 48, by omega⟩ ⟨z.toNat - 48, by omega⟩
      simp only [show 48 + (x.toNat - 48) = x.toNat by omega, show 48 + (y.toNat - 48) = y.toNat by omega, show 48 + (z.toNat - 48) = z.toNat by omega] at hf
      rw [hf]
      have hv : ((x - 48) * 64 + (y - 48) * 8 + (z - 48)).toNat = (x.toNat - 48) * 64 + (y.toNat - 48) * 8 + (z.toNat - 48) := by
        have e1 : (x - 48).toNat = x.toNat - 48 := UInt8.toNat_sub_of_le _ _ (UInt8.le_iff_toNat_le.2 x1)
        have e2 : (y - 48).toNat = y.toNat - 48 := UInt8.toNat_sub_of_le _ _ (UInt8.le_iff_toNat_le.2 y1)
        have e3 : (z - 48).toNat = z.toNat - 48 := UInt8.toNat_sub_of_le _ _ (UInt8.le_iff_toNat_le.2 z1)
        rw [UInt8.toNat_add, UInt8.toNat_add, UInt8.toNat_mul, UInt8.toNat_mul, e1, e2, e3]
        rw [show (64 : UInt8).toNat = 64 from rfl, show (8 : UInt8).toNat = 8 from rfl]
        omega
      rw [hv]
      rfl
    · rw [if_neg hg]
      have hn : ¬ ((48 ≤ x.toNat ∧ x.toNat ≤ 51) ∧ (48 ≤ y.toNat ∧ y.toNat ≤ 55) ∧ (48 ≤ z.toNat ∧ z.toNat ≤ 55)) := fun h => hg (hc.2 h)
      have R : (some (((((0 : UInt8), 0) : UInt8 × Nat).1.toNat : Int), decide ((((0 : UInt8), 0) : UInt8 × Nat).2 = 3)) : Option (Int × Bool)) = some (0, false) := rfl
      rw [R]
      by_cases d1 : (x.toNat : Int) < 48
      · rw [if_pos d1]
      rw [if_neg d1]
      by_cases d2 : (x.toNat : Int) > 51
      · rw [if_pos d2]
      rw [if_neg d2]
      by_cases d3 : (y.toNat : Int) < 48
      · rw [if_pos d3]
      rw [if_neg d3]
      by_cases d4 : (y.toNat : Int) > 55
      · rw [if_pos d4]
      rw [if_neg d4]
      by_cases d5 : (z.toNat : Int) < 48
      · rw [if_pos d5]
      rw [if_neg d5]
      by_cases d6 : (z.toNat : Int) > 55
      · rw [if_pos d6]
      exfalso
      apply hn
      omega
theorem one_pre (l : List UInt8) (c : UInt8) : (l.take 1 == [c]) = true ↔ l.head? = some c := by
  cases l with
  | nil => simp
  | cons d l => simp
theorem octL_len (l : List UInt8) : (octL l).2 = 3 ∨ octL l = (0, 0) := by
  unfold octL
  split
  · split
    · exact .inl rfl
    · exact .inr rfl
  · exact .inr rfl
theorem unescape_f (a : ByteArray) : quote_unescape.f a = some (((unL (bl a)).1.toNat : Int), ((unL (bl a)).2 : Int)) := by
  unfold quote_unescape.f unL
  rw [prefix_f, prefix_f, octal_f, Option.bind_some, Option.bind_some, Option.bind_some]
  have e1 : bl (⟨#[110]⟩ : ByteArray) = [110] := rfl
  have e2 : bl (⟨#[116]⟩ : ByteArray) = [116] := rfl
  rw [e1, e2, show ([110] : List UInt8).length = 1 from rfl, show ([116] : List UInt8).length = 1 from rfl]
  by_cases h1 : (bl a).head? = some 110
  · rw [if_pos ((one_pre _ _).2 h1), if_pos h1]; rfl
  · rw [if_neg (fun h => h1 ((one_pre _ _).1 h)), if_neg h1]
    by_cases h2 : (bl a).head? = some 116
    · rw [if_pos ((one_pre _ _).2 h2), if_pos h2]; rfl
    · rw [if_neg (fun h => h2 ((one_pre _ _).1 h)), if_neg h2]
      rcases octL_len (bl a) with h | h
      · rw [if_pos (by simp [h])]
        simp [h]
      · rw [h]; rfl
theorem unL_len (l : List UInt8) : (unL l).2 ≤ l.length ∧ (unL l).2 ≤ 3 := by
  unfold unL
  split
  · next h => cases l with
    | nil => simp at h
    | cons => simp
  · split
    · next h => cases l with
      | nil => simp at h
      | cons => simp
    · unfold octL
      split
      · split
        · simp
        · simp
      · simp
/-- Between two ': up to the next. -/
theorem sh1 : ∀ (z : List (UInt8 × Int)) (out : List UInt8), shF 1 z out = if Lib.indexByte (z.map Prod.fst) 39 < 0 then none else shF 0 (z.drop ((Lib.indexByte (z.map Prod.fst) 39).toNat + 1)) (out ++ (z.map Prod.fst).take (Lib.indexByte (z.map Prod.fst) 39).toNat)
  | [], out => by rw [shF]; rfl
  | p :: r, out => by
    rw [shF, if_neg (by decide), if_pos rfl, List.map_cons, Lib.indexByte]
    by_cases h : p.1 = 39
    · rw [if_pos h]
      have : (p.1 == 39) = true := by rw [h]; rfl
      rw [this]
      simp
    · rw [if_neg h, sh1 r (out ++ [p.1])]
      have h1 : (p.1 == 39) = false := by simpa using h
      rw [h1]
      have hge := Lib.indexByte_ge (r.map Prod.fst) 39
      by_cases hn : Lib.indexByte (r.map Prod.fst) 39 < 0
      · have e : Lib.indexByte (r.map Prod.fst) 39 = -1 := by omega
        rw [if_pos hn, e]
        rfl
      · have e : (Lib.indexByte (r.map Prod.fst) 39 == -1) = false := by
          rw [beq_eq_false_iff_ne]; omega
        rw [if_neg hn, e]
        have e2 : (Lib.indexByte (r.map Prod.fst) 39 + 1).toNat = (Lib.indexByte (r.map Prod.fst) 39).toNat + 1 := by omega
        simp only [Bool.false_eq_true, if_false]
        rw [if_neg (by omega), e2]
        simp
theorem z_map_drop (s : ByteArray) (p : Nat) : ((zL s (kL s)).drop p).map Prod.fst = (bl s).drop p := by
  rw [List.map_drop]
  congr 1
  unfold zL
  rw [List.map_fst_zip]
  rw [kL_len, len_list]
  exact Nat.le_refl _
theorem two_pre (c a b : UInt8) (l : List UInt8) : ((c :: l).take 2 == [a, b]) = true ↔ c = a ∧ (l.head? == some b) = true := by
  cases l with
  | nil => simp
  | cons d l => simp
/-- One step outside. -/
theorem sh0_eq (s : ByteArray) (p : Nat) (acc : List UInt8) (h : p < s.size) : shF 0 ((zL s (kL s)).drop p) acc =
    if rd (kL s) (p : Int) = 1 then shF 0 ((zL s (kL s)).drop (p + 1)) (acc ++ [ub s p])
    else if (((bl s).drop p).take 2 == [92, 39]) = true then shF 0 ((zL s (kL s)).drop (p + 2)) (acc ++ [39])
    else if (((bl s).drop p).take 2 == [36, 39]) = true then shF 2 ((zL s (kL s)).drop (p + 2)) acc
    else if ub s p = 39 then (if Lib.indexByte ((bl s).drop (p + 1)) 39 < 0 then none else shF 0 ((zL s (kL s)).drop (p + 1 + ((Lib.indexByte ((bl s).drop (p + 1)) 39).toNat + 1))) (acc ++ ((bl s).drop (p + 1)).take (Lib.indexByte ((bl s).drop (p + 1)) 39).toNat))
    else none := by
  have hz := z_at s (kL s) (kL_len s) p h
  have hm := z_map_drop s (p + 1)
  have hd : hd39 ((zL s (kL s)).drop (p + 1)) = (((bl s).drop (p + 1)).head? == some 39) := by unfold hd39; rw [hm]
  have hb := ub_at s p h
  rw [hz, hb, shF, if_pos rfl, sh1, hm, List.drop_drop, hd]
  simp only [two_pre, List.drop_drop]
theorem sh2_eq (s : ByteArray) (p : Nat) (acc : List UInt8) (h : p < s.size) : shF 2 ((zL s (kL s)).drop p) acc =
    if ub s p = 39 then shF 0 ((zL s (kL s)).drop (p + 1)) acc
    else if ub s p = 92 then (if (unL ((bl s).drop (p + 1))).2 = 0 then none else shF 2 ((zL s (kL s)).drop (p + 1 + (unL ((bl s).drop (p + 1))).2)) (acc ++ [(unL ((bl s).drop (p + 1))).1]))
    else none := by
  have hz := z_at s (kL s) (kL_len s) p h
  have hm := z_map_drop s (p + 1)
  rw [hz, shF, if_neg (by decide), if_neg (by decide), hm]
  simp only [List.drop_drop]
theorem sh_end (s : ByteArray) (p st : Nat) (acc : List UInt8) (h : s.size ≤ p) : shF st ((zL s (kL s)).drop p) acc = if st = 0 then some acc else none := by
  rw [List.drop_eq_nil_of_le (by rw [z_len s _ (kL_len s)]; exact h), shF]
def resOf : Option (List UInt8) → ByteArray × Bool
  | none => (⟨#[]⟩, false)
  | some l => (B l, true)
end Go.Proofs.YtkhbgfnbkdonlaaDoor.Pure
namespace Go.Proofs.YtkhbgfnbkdonlaaDoor.QQuo
open Go.Proofs.YtkhbgfnbkdonlaaDoor.Pure
/-- What the program's Shell reads. -/
def quote_Shell.R (s : ByteArray) : ByteArray × Bool := if s.size = 0 then (⟨#[]⟩, false) else resOf (shF 0 (zL s (kL s)) [])
def quote_Shell.f (s : ByteArray) : Option (ByteArray × Bool) := if s.size ≤ 100000 then some (quote_Shell.R s) else none
end Go.Proofs.YtkhbgfnbkdonlaaDoor.QQuo
