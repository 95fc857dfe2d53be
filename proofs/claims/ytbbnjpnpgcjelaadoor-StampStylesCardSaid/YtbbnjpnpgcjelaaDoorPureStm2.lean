/- stamp's plain laws: a format, by the program and by the document, is one text. -/
import Derived.Test.YtbbnjpnpgcjelaaDoorPureStm1
import Derived.Test.YtbbnjpnpgcjelaaDoorQStmRF
import Derived.Test.YtbbnjpnpgcjelaaDoorQAwake
namespace Go.Proofs.YtbbnjpnpgcjelaaDoor.Pure
open Go.RowKit Go.Lib Go.Proofs.YtbbnjpnpgcjelaaDoor.QStm Go.Proofs.YtbbnjpnpgcjelaaDoor.DateMath Go.Proofs.YtbbnjpnpgcjelaaDoor.DateEv Go.Proofs.YtbbnjpnpgcjelaaDoorW.PrintWords Go.Proofs.YtbbnjpnpgcjelaaDoorW.PrintLast Go.Proofs.YtbbnjpnpgcjelaaDoorW.PrintMore
set_option linter.unusedVariables false
set_option linter.unusedSimpArgs false

/-- A format's text, X being what the directives write. -/
def fm (X : Int → ByteArray × Bool) : List UInt8 → List UInt8
  | [] => []
  | [c] => [c]
  | c :: d :: r => if c = 37 then (if (X (d.toNat : Int)).2 = true then L (X (d.toNat : Int)).1 ++ fm X r else c :: fm X (d :: r)) else c :: fm X (d :: r)
theorem fm_app (X : Int → ByteArray × Bool) (g : List UInt8) : ∀ (m : Nat) (f : List UInt8), f.length ≤ m → (∀ h : f ≠ [], f.getLast h ≠ 37) → fm X (f ++ g) = fm X f ++ fm X g := by
  intro m
  induction m with
  | zero =>
    intro f hf _
    obtain rfl := List.length_eq_zero_iff.1 (Nat.le_zero.1 hf)
    rfl
  | succ m ih =>
    intro f hf hl
    match f, hf, hl with
    | [], _, _ => rfl
    | [c], _, hl =>
      have hc : c ≠ 37 := by simpa using hl
      cases g with
      | nil => simp [fm]
      | cons d r => simp [fm, hc]
    | c :: d :: r, hf, hl =>
      have h1 : ∀ h : (d :: r) ≠ [], (d :: r).getLast h ≠ 37 := fun h => by simpa [List.getLast_cons h] using hl (by simp)
      have h2 : ∀ h : r ≠ [], r.getLast h ≠ 37 := fun h => by
        have := h1 (by simp)
        rwa [List.getLast_cons h] at this
      have e1 := ih (d :: r) (by simp at hf ⊢; omega) h1
      have e2 := ih r (by simp at hf ⊢; omega) h2
      simp only [List.cons_append] at e1 ⊢
      rw [fm, fm, e1, e2]
      repeat' split
      all_goals simp
theorem fm_congr {X X' : Int → ByteArray × Bool} : ∀ (m : Nat) (f : List UInt8), f.length ≤ m → (∀ d ∈ f, X (d.toNat : Int) = X' (d.toNat : Int)) → fm X f = fm X' f := by
  intro m
  induction m with
  | zero =>
    intro f hf _
    obtain rfl := List.length_eq_zero_iff.1 (Nat.le_zero.1 hf)
    rfl
  | succ m ih =>
    intro f hf h
    match f, hf, h with
    | [], _, _ => rfl
    | [c], _, _ => rfl
    | c :: d :: r, hf, h =>
      rw [fm, fm, h d (by simp), ih (d :: r) (by simp at hf ⊢; omega) (fun x hx => h x (List.mem_cons_of_mem _ hx)), ih r (by simp at hf ⊢; omega) (fun x hx => h x (List.mem_cons_of_mem _ (List.mem_cons_of_mem _ hx)))]
theorem ub_drop (s : ByteArray) (i : Nat) (h : i < s.size) : (L s).drop i = ub s i :: (L s).drop (i + 1) := by
  have hl : i < (L s).length := by rw [L_len]; exact h
  rw [List.drop_eq_getElem_cons hl]
  unfold ub
  rw [List.getD_eq_getElem?_getD, List.getElem?_eq_getElem hl]
  rfl
/-- The program's loop. -/
theorem ub_mem (s : ByteArray) (i : Nat) (h : i < s.size) : ub s i ∈ L s := by
  have := ub_drop s i h
  exact List.mem_of_mem_drop (i := i) (by rw [this]; exact List.mem_cons_self)
theorem fmtL_eq (dir : Int → Option (ByteArray × Bool)) (X : Int → ByteArray × Bool) (s : ByteArray) (hd : ∀ d ∈ L s, dir (d.toNat : Int) = some (X (d.toNat : Int))) (hX : ∀ c, (X c).1.size ≤ 1000) (hs : s.size ≤ 100000) :
    ∀ (k i : Nat) (acc : List UInt8), s.size - i < k → acc.length + 1000 * (s.size - i) ≤ 1000000000 → fmtL dir k s i acc = some (acc ++ fm X ((L s).drop i)) := by
  intro k
  induction k with
  | zero => intro i acc h; omega
  | succ k ih =>
    intro i acc hk ha
    rw [fmtL]
    by_cases h : i < s.size
    · rw [if_pos h, if_pos (by omega), ub_drop s i h]
      have e0 := bt_ub s i h
      have step : fmtL dir k s (i + 1) (acc ++ [ub s i]) = some (acc ++ ub s i :: fm X ((L s).drop (i + 1))) := by
        rw [ih (i + 1) _ (by omega) (by simp; omega)]
        simp
      by_cases h1 : i + 1 < s.size
      · rw [ub_drop s (i + 1) h1] at step ⊢
        have e1 := bt_ub s (i + 1) h1
        have hb := bt_range s ((i : Int) + 1)
        rw [fm]
        by_cases c : bt s (i : Int) = 37
        · have c' : ub s i = 37 := by
            have : (ub s i).toNat = 37 := by omega
            exact UInt8.toNat_inj.1 this
          have e2 : ((ub s (i + 1)).toNat : Int) = bt s ((i : Int) + 1) := by rw [e1]; rfl
          rw [if_pos c, if_pos h1, if_pos c', ← e2, hd _ (ub_mem s (i + 1) h1), Option.bind_some, e2]
          by_cases hx : (X (bt s ((i : Int) + 1))).2 = true
          · have hz := hX (bt s ((i : Int) + 1))
            rw [if_pos hx, if_pos hx, if_pos (by omega), ih (i + 2) _ (by omega) (by rw [List.length_append, L_len]; omega)]
            simp
          · rw [if_neg hx, if_neg hx]; exact step
        · have c' : ub s i ≠ 37 := by
            intro e; rw [e] at e0; exact c e0.symm
          rw [if_neg c, if_neg c']; exact step
      · have hnil : (L s).drop (i + 1) = [] := List.drop_eq_nil_of_le (by rw [L_len]; omega)
        rw [hnil] at step ⊢
        rw [if_neg h1, step]
        simp [fm]
    · rw [if_neg h, List.drop_eq_nil_of_le (by rw [L_len]; omega), fm, List.append_nil]
theorem fmtF_eq (dir : Int → Option (ByteArray × Bool)) (X : Int → ByteArray × Bool) (s : ByteArray) (hd : ∀ d ∈ L s, dir (d.toNat : Int) = some (X (d.toNat : Int))) (hX : ∀ c, (X c).1.size ≤ 1000) (hs : s.size ≤ 100000) : fmtF dir s = some (B (fm X (L s))) := by
  unfold fmtF
  rw [if_pos (by omega), fmtL_eq dir X s hd hX hs (s.size + 1) 0 [] (by omega) (by simp; omega)]
  simp [B]
/-- One number of rounds serves all bytes. -/
theorem all_bytes {β : Type} {g : Nat → Int → Option β} {X : Int → β} (h : ∀ c : Int, Ev (fun k => g k c) (X c)) : ∃ K, ∀ k, K ≤ k → ∀ c : Int, 0 ≤ c → c ≤ 255 → g k c = some (X c) := by
  have : ∀ n : Nat, ∃ K, ∀ k, K ≤ k → ∀ c : Int, 0 ≤ c → c < n → g k c = some (X c) := by
    intro n
    induction n with
    | zero => exact ⟨0, fun k _ c h1 h2 => by omega⟩
    | succ n ih =>
      obtain ⟨K, hK⟩ := ih
      obtain ⟨K2, hK2⟩ := h (n : Int)
      refine ⟨K + K2, fun k hk c h1 h2 => ?_⟩
      by_cases e : c = n
      · subst e; exact hK2 k (by omega)
      · exact hK k (by omega) c h1 (by omega)
  obtain ⟨K, hK⟩ := this 256
  exact ⟨K, fun k hk c h1 h2 => hK k hk c h1 (by omega)⟩
section
variable {t o Y M D h mi s wd yd : Int}
def Sz (x : ByteArray × Bool) : Prop := x.1.size ≤ 21
theorem ite_p {α : Type} {P : α → Prop} {c : Prop} [Decidable c] {a b : α} (ha : P a) (hb : P b) : P (if c then a else b) := by split <;> assumption
theorem dv0_size (n : Nums t o Y M D h mi s wd yd) (c : Int) : (dv0 t o Y M D h mi s wd yd c).1.size ≤ 21 := by
  have e1 := dec_size Y n.Y0 n.Y1
  have e2 := dec_size t n.t0 n.t1
  have e3 := month_size M n.M0 n.M1
  have e4 := week_size wd n.w0 n.w1
  have e5 := zone_size o
  have e6 := two_size
  have e7 := three_size yd
  have e8 := dayE_size D
  unfold dv0
  show Sz _
  repeat' (refine ite_p (P := Sz) ?_ ?_)
  all_goals (first | (show (dec _).size ≤ 21; assumption) | (show (two _).size ≤ 21; rw [e6]; decide) | (show (three _).size ≤ 21; rw [e7]; decide) | (show (dayE _).size ≤ 21; rw [e8]; decide) | (show (monthT _).size ≤ 21; omega) | (show (weekT _).size ≤ 21; omega) | (show (zoneT _).size ≤ 21; omega) | (show 1 ≤ 21; decide) | (show 0 ≤ 21; decide))
theorem dv_size (n : Nums t o Y M D h mi s wd yd) (c : Int) : (dv t o Y M D h mi s wd yd c).1.size ≤ 1000 := by
  have e1 := dec_size Y n.Y0 n.Y1
  have e0 := dv0_size n c
  unfold dv
  split
  · show (dashed Y M D).size ≤ 1000
    unfold dashed; simp only [ByteArray.size_append, two_size]
    show (dec Y).size + 1 + 2 + 1 + 2 ≤ 1000
    omega
  · split
    · show (colons h mi s).size ≤ 1000
      unfold colons; simp only [ByteArray.size_append, two_size]
      show 2 + 1 + 2 + 1 + 2 ≤ 1000
      omega
    · omega
theorem d1F_ev (n : Nums t o Y M D h mi s wd yd) (hof : Ev (fun k => date_Of.f k t o) (Y, M, D, h, mi, s, wd, yd)) (f : ByteArray) (hf : f.size ≤ 100000) (hno : ∀ d ∈ L f, (d.toNat : Int) ≠ 70 ∧ (d.toNat : Int) ≠ 84) :
    Ev (fun k => D1.stamp_Format.f k f t o) (B (fm (dv0 t o Y M D h mi s wd yd) (L f))) := by
  have h0 : ∀ c : Int, Ev (fun k => if c = 70 ∨ c = 84 then some (⟨#[]⟩, false) else D0.stamp_directive.f k c t o) (if c = 70 ∨ c = 84 then (⟨#[]⟩, false) else dv0 t o Y M D h mi s wd yd c) := by
    intro c
    by_cases hc : c = 70 ∨ c = 84
    · simp only [if_pos hc]; exact Ev.now _
    · simp only [if_neg hc]; exact d0_dv n hof c (fun e => hc (.inl e)) (fun e => hc (.inr e))
  obtain ⟨K, hK⟩ := all_bytes (g := fun k c => if c = 70 ∨ c = 84 then some (⟨#[]⟩, false) else D0.stamp_directive.f k c t o) h0
  refine ⟨K, fun k hk => ?_⟩
  unfold D1.stamp_Format.f
  refine fmtF_eq _ _ f (fun d hd => ?_) (fun c => Nat.le_trans (dv0_size n c) (by omega)) hf
  have hl : d.toNat < 256 := d.toNat_lt
  have hh := hno d hd
  have := hK k hk (d.toNat : Int) (by omega) (by omega)
  simp only [if_neg (show ¬ ((d.toNat : Int) = 70 ∨ (d.toNat : Int) = 84) from fun e => e.elim hh.1 hh.2)] at this
  exact this
theorem dv0_at (c : Int) (h1 : c ≠ 70) (h2 : c ≠ 84) : dv t o Y M D h mi s wd yd c = dv0 t o Y M D h mi s wd yd c := by unfold dv; rw [if_neg h1, if_neg h2]
theorem fmF : fm (dv0 t o Y M D h mi s wd yd) [37, 89, 45, 37, 109, 45, 37, 100] = L (dashed Y M D) := by
  rw [show fm (dv0 t o Y M D h mi s wd yd) [37, 89, 45, 37, 109, 45, 37, 100] = L (dec Y) ++ (45 :: (L (two M) ++ (45 :: (L (two D) ++ [])))) from rfl]
  unfold dashed
  simp only [L_app, show L (⟨#[45]⟩ : ByteArray) = [45] from rfl, List.append_assoc, List.append_nil, List.cons_append, List.nil_append]
theorem fmT : fm (dv0 t o Y M D h mi s wd yd) [37, 72, 58, 37, 77, 58, 37, 83] = L (colons h mi s) := by
  rw [show fm (dv0 t o Y M D h mi s wd yd) [37, 72, 58, 37, 77, 58, 37, 83] = L (two h) ++ (58 :: (L (two mi) ++ (58 :: (L (two s) ++ [])))) from rfl]
  unfold colons
  simp only [L_app, show L (⟨#[58]⟩ : ByteArray) = [58] from rfl, List.append_assoc, List.append_nil, List.cons_append, List.nil_append]
theorem d1_dv (n : Nums t o Y M D h mi s wd yd) (hof : Ev (fun k => date_Of.f k t o) (Y, M, D, h, mi, s, wd, yd)) (c : Int) : Ev (fun k => D1.stamp_directive.f k c t o) (dv t o Y M D h mi s wd yd c) := by
  unfold dv D1.stamp_directive.f
  by_cases hF : c = 70
  · simp only [if_pos hF]
    refine Ev.bind hof ?_
    refine Ev.bind (f := fun _ t142 => some (t142, true)) (d1F_ev n hof (⟨#[37, 89, 45, 37, 109, 45, 37, 100]⟩ : ByteArray) (by decide) (by decide)) ?_
    rw [show L (⟨#[37, 89, 45, 37, 109, 45, 37, 100]⟩ : ByteArray) = [37, 89, 45, 37, 109, 45, 37, 100] from rfl, fmF, B_L]
    exact Ev.now _
  simp only [if_neg hF]
  by_cases hT : c = 84
  · simp only [if_pos hT]
    refine Ev.bind hof ?_
    refine Ev.bind (f := fun _ t142 => some (t142, true)) (d1F_ev n hof (⟨#[37, 72, 58, 37, 77, 58, 37, 83]⟩ : ByteArray) (by decide) (by decide)) ?_
    rw [show L (⟨#[37, 72, 58, 37, 77, 58, 37, 83]⟩ : ByteArray) = [37, 72, 58, 37, 77, 58, 37, 83] from rfl, fmT, B_L]
    exact Ev.now _
  simp only [if_neg hT]
  exact d0_dv n hof c hF hT
theorem format_ev (n : Nums t o Y M D h mi s wd yd) (hof : Ev (fun k => date_Of.f k t o) (Y, M, D, h, mi, s, wd, yd)) (f : ByteArray) (hf : f.size ≤ 100000) :
    Ev (fun k => stamp_Format.f k f t o) (B (fm (dv t o Y M D h mi s wd yd) (L f))) := by
  obtain ⟨K, hK⟩ := all_bytes (fun c => d1_dv n hof c)
  refine ⟨K, fun k hk => ?_⟩
  unfold stamp_Format.f
  refine fmtF_eq _ _ f (fun d hd => ?_) (fun c => dv_size n c) hf
  have hl : d.toNat < 256 := d.toNat_lt
  exact hK k hk (d.toNat : Int) (by omega) (by omega)
/-- The document's loop. -/
theorem refFormat_l (n : Nums t o Y M D h mi s wd yd) (hof : Ev (fun k => domesdayref04_Of.f k t o) (Y, M, D, h, mi, s, wd, yd)) (f : ByteArray) (hf : f.size ≤ 100000) :
    ∀ (m i : Nat) (acc : List UInt8), f.size - i ≤ m → i ≤ f.size → acc.length + 1000 * (f.size - i) ≤ 1000000000 → Ev (fun k => domesdayref05_Format.l0 k f t o (B acc) (i : Int)) (B (acc ++ fm (dv t o Y M D h mi s wd yd) ((L f).drop i))) := by
  intro m
  induction m with
  | zero =>
    intro i acc h1 h2 h3
    rw [List.drop_eq_nil_of_le (by rw [L_len]; omega), fm, List.append_nil]
    exact Ev.step (f := fun _ => some (B acc)) (fun k => by rw [domesdayref05_Format.l0, if_neg (by omega)]) (Ev.now _)
  | succ m ih =>
    intro i acc h1 h2 h3
    by_cases hlt : i < f.size
    · have e0 := bt_ub f i hlt
      rw [ub_drop f i hlt]
      have w1 : wrap64 ((i : Int) + 1) = ((i + 1 : Nat) : Int) := by rw [wrap_id _ (by omega) (by omega)]; rfl
      have w2 : wrap64 (((i + 1 : Nat) : Int) + 1) = ((i + 2 : Nat) : Int) := by rw [wrap_id _ (by omega) (by omega)]; omega
      have w3 : wrap64 ((f.size : Int) - 1) = (f.size : Int) - 1 := wrap_id _ (by omega) (by omega)
      have ex : f.extract i (i + 1) = B [ub f i] := by
        apply L_inj
        rw [L_B]
        show (f.extract i (i + 1)).data.toList = _
        rw [ByteArray.data_extract, Array.toList_extract, List.extract_eq_take_drop]
        show ((L f).drop i).take _ = _
        rw [ub_drop f i hlt, Nat.add_sub_cancel_left]
        rfl
      have plain : ∀ (s' : ByteArray), Ev (fun k => domesdayref05_Format.j2 k f t o (B acc) (i : Int) s' false) (B (acc ++ ub f i :: fm (dv t o Y M D h mi s wd yd) ((L f).drop (i + 1)))) := by
        intro s'
        refine Ev.step (f := fun k => domesdayref05_Format.l0 k f t o (B (acc ++ [ub f i])) ((i + 1 : Nat) : Int)) (fun k => ?_) ?_
        · rw [domesdayref05_Format.j2, if_neg (by decide), w1, if_pos (by omega), if_pos (by omega), if_pos (by omega), Int.toNat_natCast, Int.toNat_natCast, ex, if_pos (by rw [B_size, B_size]; simp; omega), B_app]
        · have := ih (i + 1) (acc ++ [ub f i]) (by omega) (by omega) (by simp; omega)
          simpa using this
      have skip : Ev (fun k => domesdayref05_Format.j1 k f t o (B acc) (i : Int) ⟨#[]⟩ false false) (B (acc ++ ub f i :: fm (dv t o Y M D h mi s wd yd) ((L f).drop (i + 1)))) :=
        Ev.step (f := fun k => domesdayref05_Format.j2 k f t o (B acc) (i : Int) ⟨#[]⟩ false) (fun k => by rw [domesdayref05_Format.j1, if_neg (by decide)]) (plain _)
      by_cases c : bt f (i : Int) = 37
      · have c' : ub f i = 37 := by
          have : (ub f i).toNat = 37 := by omega
          exact UInt8.toNat_inj.1 this
        by_cases hlt1 : i + 1 < f.size
        · have e1 := bt_ub f (i + 1) hlt1
          rw [ub_drop f (i + 1) hlt1] at plain ⊢
          rw [fm, if_pos c']
          refine Ev.step (f := fun k => domesdayref05_Format.j1 k f t o (B acc) (i : Int) ⟨#[]⟩ false true) (fun k => by rw [domesdayref05_Format.l0, if_pos (by omega), if_pos (by omega), if_pos c, w3, decide_eq_true (by omega)]) ?_
          refine Ev.step (f := fun k => (domesdayref05_One.f k (bt f ((i + 1 : Nat) : Int)) t o).bind fun bt147 => (domesdayref05_Format.j2 k f t o (B acc) (i : Int) bt147.1 bt147.2)) (fun k => by rw [domesdayref05_Format.j1, if_pos rfl, w1, if_pos (by omega), if_pos (by omega)]) ?_
          refine Ev.bind (f := fun k bt147 => (domesdayref05_Format.j2 k f t o (B acc) (i : Int) bt147.1 bt147.2)) (ref_dv n hof _) ?_
          rw [← e1]
          by_cases hx : (dv t o Y M D h mi s wd yd ((ub f (i + 1)).toNat : Int)).2 = true
          · have hz := dv_size n ((ub f (i + 1)).toNat : Int)
            rw [if_pos hx]
            refine Ev.step (f := fun k => domesdayref05_Format.l0 k f t o (B (acc ++ L (dv t o Y M D h mi s wd yd ((ub f (i + 1)).toNat : Int)).1)) ((i + 2 : Nat) : Int)) (fun k => ?_) ?_
            · rw [domesdayref05_Format.j2, if_pos hx, w1, w2, if_pos (by rw [B_size]; omega), ← B_app, B_L]
            · have := ih (i + 2) (acc ++ L (dv t o Y M D h mi s wd yd ((ub f (i + 1)).toNat : Int)).1) (by omega) (by omega) (by rw [List.length_append, L_len]; omega)
              rw [List.append_assoc] at this
              exact this
          · rw [if_neg hx, show (dv t o Y M D h mi s wd yd ((ub f (i + 1)).toNat : Int)).2 = false from by simpa using hx]
            exact plain _
        · have hnil : (L f).drop (i + 1) = [] := List.drop_eq_nil_of_le (by rw [L_len]; omega)
          rw [hnil] at skip ⊢
          refine Ev.step (f := fun k => domesdayref05_Format.j1 k f t o (B acc) (i : Int) ⟨#[]⟩ false false) (fun k => by rw [domesdayref05_Format.l0, if_pos (by omega), if_pos (by omega), if_pos c, w3, decide_eq_false (by omega)]) ?_
          simpa [fm] using skip
      · have c' : ub f i ≠ 37 := by
          intro e; rw [e] at e0; exact c e0.symm
        refine Ev.step (f := fun k => domesdayref05_Format.j1 k f t o (B acc) (i : Int) ⟨#[]⟩ false false) (fun k => by rw [domesdayref05_Format.l0, if_pos (by omega), if_pos (by omega), if_neg c]) ?_
        have hfm : fm (dv t o Y M D h mi s wd yd) (ub f i :: (L f).drop (i + 1)) = ub f i :: fm (dv t o Y M D h mi s wd yd) ((L f).drop (i + 1)) := by
          cases (L f).drop (i + 1) with
          | nil => rfl
          | cons d r => rw [fm, if_neg c']
        rw [hfm]
        exact skip
    · rw [List.drop_eq_nil_of_le (by rw [L_len]; omega), fm, List.append_nil]
      exact Ev.step (f := fun _ => some (B acc)) (fun k => by rw [domesdayref05_Format.l0, if_neg (by omega)]) (Ev.now _)
theorem refFormat_ev (n : Nums t o Y M D h mi s wd yd) (hof : Ev (fun k => domesdayref04_Of.f k t o) (Y, M, D, h, mi, s, wd, yd)) (f : ByteArray) (hf : f.size ≤ 100000) :
    Ev (fun k => domesdayref05_Format.f k f t o) (B (fm (dv t o Y M D h mi s wd yd) (L f))) := by
  have := refFormat_l n hof f hf f.size 0 [] (by omega) (by omega) (by simp; omega)
  exact this
end
end Go.Proofs.YtbbnjpnpgcjelaaDoor.Pure
