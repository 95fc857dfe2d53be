import Derived.Test.YtcbjkfhflmlniaaDoorKXPa5
import Derived.Test.YtcbjkfhflmlniaaDoorKXPMath
import Derived.OpenShut
import Derived.Test.YtcbjkfhflmlniaaDoorKS9
import Derived.Test.YtcbjkfhflmlniaaDoorKXVtF
-- Texts of this seat, what the claim does not reach struck out by a program.
section
namespace Go.Proofs.YtcbjkfhflmlniaaDoor.QVfs
open Go.RowKit Go.Lib Go.Proofs.YtcbjkfhflmlniaaDoor.PathMath Go.Proofs.YtcbjkfhflmlniaaDoorW.PrintWords Go.Proofs.YtcbjkfhflmlniaaDoorW.PrintLast Go.Proofs.YtcbjkfhflmlniaaDoorW.PrintMore
set_option linter.unusedVariables false
set_option linter.unusedSimpArgs false
theorem may_root (n : Node) (g : Int) (h : n.f2 = 2) : mayB n 0 g = true := by
 unfold mayB perm_May.f perm_bits.f
 rw [if_pos rfl, if_pos h]
 rfl
theorem Fs.may_dir {F : Fs} {g id : Int} {name : ByteArray} (h : (F.nodeN id).f2 = 2) (hn : name.size ≤ 255) : F.mayE 0 g id name = 0 := by
 unfold Fs.mayE
 rw [if_pos h, if_pos (may_root _ _ h), if_neg (by omega)]
theorem Fs.may_no {F : Fs} {u g id : Int} {name : ByteArray} (h : (F.nodeN id).f2 ≠ 2) : F.mayE u g id name = 3 := by
 unfold Fs.mayE; rw [if_neg h]
theorem Walks.det {F : Fs} {u g : Int} {S : Wk} {e e2 : Int} {T T2 : Wk} (h : Walks F u g S e T) (h2 : Walks F u g S e2 T2) : e = e2 ∧ T = T2 := by
 induction h generalizing e2 T2 with
 | done h =>
  cases h2 with
  | done _ => exact ⟨rfl, rfl⟩
  | stop h' => rw [h] at h'; cases h'
  | on h' => rw [h] at h'; cases h'
 | stop h hs he =>
  cases h2 with
  | done h' => rw [h] at h'; cases h'
  | stop h' hs' he' =>
   rw [h] at h'
   cases h'
   rw [hs] at hs'
   cases hs'
   exact ⟨rfl, rfl⟩
  | on h' hs' _ =>
   rw [h] at h'
   cases h'
   rw [hs] at hs'
   cases hs'
   exact absurd rfl he
 | on h hs hw ih =>
  cases h2 with
  | done h' => rw [h] at h'; cases h'
  | stop h' hs' he' =>
   rw [h] at h'
   cases h'
   rw [hs] at hs'
   cases hs'
   exact absurd rfl he'
  | on h' hs' hw' =>
   rw [h] at h'
   cases h'
   rw [hs] at hs'
   cases hs'
   exact ih hw'
theorem Wk.step_dots {F : Fs} {u g : Int} {S : Wk} (h : F.mayE u g S.id dotsB = 0) : Wk.step F u g S dotsB = (0, S.to F (F.upE S.id)) := by
 unfold Wk.step
 rw [if_pos h, if_neg (by decide), if_pos rfl]
theorem Wk.step_no {F : Fs} {u g e : Int} {S : Wk} {name : ByteArray} (h : F.mayE u g S.id name = e) (he : e ≠ 0) : Wk.step F u g S name = (e, S) := by
 unfold Wk.step
 rw [h, if_neg he]
def Wk.up (S : Wk) : Wk := { S with left := S.left ++ [dotsB], slash := false }
theorem Wk.more_up (S : Wk) (t : ByteArray) : S.up.more t = (S.more t).up := by
 unfold Wk.more Wk.up
 simp
theorem Wk.link_up (F : Fs) (S : Wk) (id dir : Int) : S.up.link F id dir = ((S.link F id dir).1, (S.link F id dir).2.up) := by
 unfold Wk.link
 have e : S.up.hop.more (F.linkT id) = (S.hop.more (F.linkT id)).up := Wk.more_up S.hop _
 have h : S.up.hops = S.hops := rfl
 rw [e, h]
 split
 ·rfl
 ·split
  ·split <;> rfl
  ·rfl
theorem Wk.link_follow (F : Fs) (S : Wk) (id dir : Int) : (S.link F id dir).2.follow = S.follow := by
 unfold Wk.link
 split
 ·rfl
 ·split
  ·simp only; split <;> rfl
  ·rfl
theorem Wk.step_up {F : Fs} {u g : Int} {S : Wk} (name : ByteArray) (hf : S.follow = true) : Wk.step F u g S.up name = ((Wk.step F u g S name).1, (Wk.step F u g S name).2.up) ∧ (Wk.step F u g S name).2.follow = true := by
 unfold Wk.step
 have hi : S.up.id = S.id := rfl
 rw [hi]
 split
 ·split
  ·exact ⟨rfl, hf⟩
  ·split
   ·exact ⟨rfl, hf⟩
   ·unfold Wk.entry
    have h1 : S.goes = true := by unfold Wk.goes; rw [hf]; simp
    have h2 : S.up.goes = true := by unfold Wk.goes; rw [show S.up.follow = true from hf]; simp
    rw [hi, h1, h2]
    split
    ·split
     ·exact ⟨rfl, hf⟩
     ·split
      ·exact ⟨Wk.link_up _ _ _ _, (Wk.link_follow _ _ _ _).trans hf⟩
      ·exact ⟨rfl, hf⟩
    ·exact ⟨rfl, hf⟩
 ·exact ⟨rfl, hf⟩
theorem Walks.up {F : Fs} {u g : Int} {S T : Wk} {e : Int} (h : Walks F u g S e T) (hf : S.follow = true) : (e ≠ 0 ∧ Walks F u g S.up e T.up) ∨ (e = 0 ∧ T.left = [] ∧ ∀ e2 T2, Walks F u g T.up e2 T2 → Walks F u g S.up e2 T2) := by
 induction h with
 | done h => exact .inr ⟨rfl, h, fun _ _ h => h⟩
 | @stop S S' e name r h hs he =>
  have k := (Wk.step_up (F := F) (u := u) (g := g) (S := { S with left := r }) name hf).1
  rw [hs] at k
  exact .inl ⟨he, Walks.stop (r := r ++ [dotsB]) (by show S.left ++ [dotsB] = _; rw [h]; rfl) k he⟩
 | @on S S' S2 e name r h hs hw ih =>
  have k := Wk.step_up (F := F) (u := u) (g := g) (S := { S with left := r }) name hf
  rw [hs] at k
  have hl : S.up.left = name :: (r ++ [dotsB]) := by show S.left ++ [dotsB] = _; rw [h]; rfl
  rcases ih k.2 with ⟨he, hw'⟩ | ⟨he, hn, hw'⟩
  ·exact .inl ⟨he, Walks.on hl k.1 hw'⟩
  ·exact .inr ⟨he, hn, fun e2 T2 h2 => Walks.on hl k.1 (hw' e2 T2 h2)⟩
abbrev Ls (s : ByteArray) : List UInt8 := s.data.toList
theorem Ls_len (s : ByteArray) : (Ls s).length = s.size := by rw [Array.length_toList]; rfl
theorem Ls_inj (s t : ByteArray) (h : Ls s = Ls t) : s = t := by
 cases s; cases t; congr 1; exact Array.toList_inj.1 h
def Bs (l : List UInt8) : ByteArray := ⟨l.toArray⟩
theorem Ls_B (l : List UInt8) : Ls (Bs l) = l := by simp [Ls, Bs]
theorem B_Ls (s : ByteArray) : Bs (Ls s) = s := Ls_inj _ _ (Ls_B _)
theorem Ls_app (s t : ByteArray) : Ls (s ++ t) = Ls s ++ Ls t := by simp [Ls]
theorem namesOf_eq (s : ByteArray) : namesOf s = (nm [] (Ls s)).map Bs := by
 unfold namesOf
 have h1 := split_nm (countB s Ext.sl) s rfl
 rw [show nm [] (Ls s) = ((Ext.pieces s).filter full).map (·.data.toList) from h1.symm, List.map_map]
 have h2 : (Bs ∘ fun x : ByteArray => x.data.toList) = id := by funext x; exact B_Ls x
 rw [h2, List.map_id]
theorem nm_cut : ∀ (l cur r : List UInt8), nm cur (l ++ 47 :: r) = nm cur l ++ nm [] r
 | [], cur, r => by
  show nm cur (47 :: r) = nm cur [] ++ nm [] r
  conv => lhs; rw [nm, if_pos rfl]
  rw [nm]
  split <;> rfl
 | c :: l, cur, r => by
  rw [List.cons_append, nm, nm]
  split
  ·split
   ·exact nm_cut l [] r
   ·rw [nm_cut l [] r]; rfl
  ·exact nm_cut l _ r
theorem ends_eq (s : ByteArray) : ends s = ((Ls s).getLast? == some 47) := by
 unfold ends
 rw [← hasSuffix_of_drop]
 show (decide (1 ≤ (Ls s).length) && ((Ls s).drop ((Ls s).length - 1) == [47])) = _
 generalize Ls s = l
 rcases List.eq_nil_or_concat l with rfl | ⟨l', c, rfl⟩
 ·rfl
 ·rw [List.concat_eq_append]
  simp
theorem walked_up {F : Fs} {s : ByteArray} (h0 : 0 < s.size) (hl : s.size ≤ 1000) {r q : Array Value × Int} (hr : F.walked 0 0 s true r) (hq : F.walked 0 0 (s ++ ⟨#[47, 46, 46]⟩) true q) :
  (r.2 ≠ 0 ∧ q.2 ≠ 0) ∨ (r.2 = 0 ∧ ∃ S : Wk, r.1 = placeV S ∧ (((F.nodeN S.id).f2 ≠ 2 ∧ q.2 = 3) ∨ ((F.nodeN S.id).f2 = 2 ∧ q.2 = 0 ∧ ∃ d : Int, q.1 = #[.int .i64 (F.overE (F.upE S.id)), .int .i64 d, .string ⟨#[]⟩, .int .i64 S.hops]))) := by
 have hz : (s ++ ⟨#[47, 46, 46]⟩).size = s.size + 3 := by rw [ByteArray.size_append]; rfl
 obtain ⟨e, S, hw, hre⟩ : ∃ e S, Walks F 0 0 (startW F s true) e S ∧ r = F.answer e S := by
  rcases hr with ⟨h, _⟩ | ⟨h, _⟩ | ⟨_, _, h⟩
  ·omega
  ·omega
  ·exact h
 obtain ⟨e2, T, hw2, hqe⟩ : ∃ e S, Walks F 0 0 (startW F (s ++ ⟨#[47, 46, 46]⟩) true) e S ∧ q = F.answer e S := by
  rcases hq with ⟨h, _⟩ | ⟨h, _⟩ | ⟨_, _, h⟩
  ·omega
  ·omega
  ·exact h
 have hst : startW F (s ++ ⟨#[47, 46, 46]⟩) true = (startW F s true).up := by
  have h1 : namesOf (s ++ ⟨#[47, 46, 46]⟩) = namesOf s ++ [dotsB] := by
   rw [namesOf_eq, namesOf_eq, Ls_app, show Ls ⟨#[47, 46, 46]⟩ = 47 :: [46, 46] from rfl, nm_cut, List.map_append]
   rfl
  have h2 : ends (s ++ ⟨#[47, 46, 46]⟩) = false := by
   rw [ends_eq, Ls_app, show Ls ⟨#[47, 46, 46]⟩ = [47, 46] ++ [46] from rfl, ← List.append_assoc, List.getLast?_concat]
   rfl
  unfold startW
  rw [h1, h2]; rfl
 rw [hst] at hw2
 subst hre hqe
 rcases hw.up rfl with ⟨he, hw'⟩ | ⟨rfl, hn, hw'⟩
 ·obtain ⟨rfl, rfl⟩ := Walks.det hw' hw2
  left
  unfold Fs.answer
  rw [if_neg he, if_neg he]
  exact ⟨he, he⟩
 have hl : S.up.left = dotsB :: [] := by show S.left ++ [dotsB] = _; rw [hn]; rfl
 by_cases hk : (F.nodeN S.id).f2 = 2
 ·right
  have hs := Wk.step_dots (F := F) (u := 0) (g := 0) (S := { S.up with left := [] }) (Fs.may_dir hk (by decide))
  have hW := hw' _ _ (Walks.on hl hs (Walks.done rfl))
  obtain ⟨rfl, rfl⟩ := Walks.det hW hw2
  unfold Fs.answer
  rw [if_pos rfl, if_neg (fun h => h.2 hk), if_pos rfl, if_neg (fun h => Bool.noConfusion h.1)]
  exact ⟨rfl, S, rfl, .inr ⟨hk, rfl, _, rfl⟩⟩
 ·have hs := Wk.step_no (F := F) (u := 0) (g := 0) (S := { S.up with left := [] }) (name := dotsB) (Fs.may_no hk) (by decide)
  have hW := hw' _ _ (Walks.stop hl hs (by decide))
  obtain ⟨rfl, rfl⟩ := Walks.det hW hw2
  unfold Fs.answer
  rw [if_pos rfl, if_neg (show ¬ (3 : Int) = 0 by decide)]
  by_cases hsl : S.slash = true ∧ (F.nodeN S.id).f2 ≠ 2
  ·rw [if_pos hsl]; exact .inl ⟨by decide, by decide⟩
  ·rw [if_neg hsl]; exact .inr ⟨rfl, S, rfl, .inl ⟨hk, rfl⟩⟩
inductive Dots (sl : Bool) : List ByteArray → List ByteArray → Prop
 | nil : Dots sl [] []
 | cons {a b : List ByteArray} (x : ByteArray) : Dots sl a b → Dots sl (x :: a) (x :: b)
 | ins {a b : List ByteArray} : (a ≠ [] ∨ sl = true) → Dots sl a b → Dots sl a (dotB :: b)
theorem Dots.refl (sl : Bool) : ∀ l, Dots sl l l
 | [] => .nil
 | x :: l => .cons x (Dots.refl sl l)
theorem Dots.app {sl : Bool} {a b : List ByteArray} (h : Dots sl a b) : ∀ l, Dots sl (l ++ a) (l ++ b)
 | [] => h
 | x :: l => .cons x (h.app l)
theorem Dots.empty {sl : Bool} {a b : List ByteArray} (h : Dots sl a b) (hs : sl = false) : a.isEmpty = b.isEmpty := by
 induction h with
 | nil => rfl
 | cons x _ _ => rfl
 | @ins a b hc _ _ =>
  rcases hc with hc | hc
  ·cases a with
   | nil => exact absurd rfl hc
   | cons => rfl
  ·rw [hs] at hc; cases hc
theorem Dots.weak {sl sl' : Bool} {a b : List ByteArray} (h : Dots sl a b) (hs : sl = true → sl' = true) : Dots sl' a b := by
 induction h with
 | nil => exact .nil
 | cons x _ ih => exact .cons x ih
 | ins hc _ ih => exact .ins (hc.imp id hs) ih
structure DotR (S T : Wk) : Prop where
 id : T.id = S.id
 hops : T.hops = S.hops
 follow : T.follow = S.follow
 slash : T.slash = S.slash
 left : Dots S.slash S.left T.left
def Fs.fixed (F : Fs) : Prop := ∀ id, F.overE (F.overE id) = F.overE id
theorem DotR.to {F : Fs} {S T : Wk} (h : DotR S T) (id : Int) : DotR (S.to F id) (T.to F id) := ⟨rfl, h.hops, h.follow, h.slash, h.left⟩
theorem DotR.or {S T : Wk} (h : DotR S T) (b : Bool) : (T.slash || (b && T.left.isEmpty)) = (S.slash || (b && S.left.isEmpty)) := by
 rw [h.slash]
 cases hs : S.slash with
 | true => rfl
 | false => rw [(h.left.empty hs)]
theorem DotR.more {S T : Wk} (h : DotR S T) (t : ByteArray) : DotR (S.more t) (T.more t) :=
 ⟨h.id, h.hops, h.follow, h.or _, (h.left.app (namesOf t)).weak (fun e => by show (S.slash || _) = true; rw [e]; rfl)⟩
theorem DotR.hop {S T : Wk} (h : DotR S T) : DotR S.hop T.hop := ⟨h.id, by show T.hops + 1 = S.hops + 1; rw [h.hops], h.follow, h.slash, h.left⟩
theorem DotR.goes {S T : Wk} (h : DotR S T) : T.goes = S.goes := by
 unfold Wk.goes
 rw [h.follow]
 cases hs : S.slash with
 | true => rw [show T.slash = true from h.slash.trans hs]; simp
 | false => rw [show T.slash = false from h.slash.trans hs, (h.left.empty hs)]
theorem DotR.link {F : Fs} {S T : Wk} (h : DotR S T) (id dir : Int) : (T.link F id dir).1 = (S.link F id dir).1 ∧ DotR (S.link F id dir).2 (T.link F id dir).2 := by
 unfold Wk.link
 rw [h.hops]
 split
 ·exact ⟨rfl, h.hop⟩
 ·split
  ·refine ⟨rfl, ?_⟩
   simp only
   split
   ·exact ((h.hop.more _).to dir).to 0
   ·exact (h.hop.more _).to dir
  ·exact ⟨rfl, h.hop⟩
theorem DotR.step {F : Fs} {u g : Int} {S T : Wk} (h : DotR S T) (name : ByteArray) : (Wk.step F u g T name).1 = (Wk.step F u g S name).1 ∧ DotR (Wk.step F u g S name).2 (Wk.step F u g T name).2 := by
 unfold Wk.step
 rw [h.id]
 split
 ·split
  ·exact ⟨rfl, h.to _⟩
  ·split
   ·exact ⟨rfl, h.to _⟩
   ·unfold Wk.entry
    rw [h.id, h.goes]
    split
    ·split
     ·exact ⟨rfl, h⟩
     ·split
      ·exact h.link _ _
      ·exact ⟨rfl, ⟨rfl, h.hops, h.follow, h.slash, h.left⟩⟩
    ·exact ⟨rfl, h⟩
 ·exact ⟨rfl, h⟩
end Go.Proofs.YtcbjkfhflmlniaaDoor.QVfs
end

section
namespace Go.Proofs.YtcbjkfhflmlniaaDoor.QVfs
open Go.RowKit Go.Proofs.YtcbjkfhflmlniaaDoorW.PrintWords Go.Proofs.YtcbjkfhflmlniaaDoorW.PrintLast Go.Proofs.YtcbjkfhflmlniaaDoorW.PrintMore
set_option linter.unusedVariables false
set_option linter.unusedSimpArgs false
structure Fs.Cover (F : Fs) : Prop where
 over : ∀ i, i < F.I.length → (F.at i).f3 = 0 ∨ ∃ d : Nat, (F.at i).f3 = d ∧ (d : Int) ∈ F.D
 first : ∀ d : Nat, (d : Int) ∈ F.D → d < F.I.length ∧ (F.at d).f3 = 0
theorem Fs.Cover.fixed {F : Fs} (h : F.Cover) : F.fixed := by
 intro id
 have self : ∀ d : Nat, d < F.I.length → (F.at d).f3 = 0 → F.overE (d : Int) = d := by
  intro d hd h0
  unfold Fs.overE
  rw [Fs.it_nat F (by omega), Int.toNat_natCast, if_pos h0]
  split <;> rfl
 by_cases hh : F.has id = true
 ·have hb : 0 ≤ id ∧ id < F.I.length := of_decide_eq_true hh
  obtain ⟨i, rfl⟩ : ∃ i : Nat, id = (i : Int) := ⟨id.toNat, by omega⟩
  have hi : i < F.I.length := by omega
  rcases h.over i hi with h0 | ⟨d, hd, hm⟩
  ·rw [self i hi h0, self i hi h0]
  ·obtain ⟨k1, k2⟩ := h.first d hm
   have e : F.overE (i : Int) = d ∨ F.overE (i : Int) = i ∧ (F.at i).f3 = 0 := by
    unfold Fs.overE
    rw [if_pos hh, Fs.it_nat F (by omega), Int.toNat_natCast]
    by_cases c : (F.at i).f3 = 0
    ·rw [if_pos c]; exact .inr ⟨rfl, c⟩
    ·rw [if_neg c]; exact .inl hd
   rcases e with e | ⟨_, e⟩
   ·rw [e]; exact self d k1 k2
   ·rw [self i hi e, self i hi e]
 ·have e : F.overE id = id := by unfold Fs.overE; rw [if_neg hh]
  rw [e, e]
theorem Fs.Cover.setI {F : Fs} (h : F.Cover) (a : Nat) (x : Item) (hx : a < F.I.length → x.f3 = (F.at a).f3) : (F.setI a x).Cover := by
 have e : ∀ i, i < F.I.length → ((F.setI a x).at i).f3 = (F.at i).f3 := by
  intro i hi
  rw [Fs.at_setI F a i x hi]
  by_cases c : a = i
  ·subst c; rw [if_pos rfl]; exact hx hi
  ·rw [if_neg c]
 refine ⟨fun i hi => ?_, fun d hd => ?_⟩
 ·rw [Fs.len_setI] at hi
  rw [e i hi]; exact h.over i hi
 ·obtain ⟨k1, k2⟩ := h.first d hd
  rw [Fs.len_setI, e d k1]; exact ⟨k1, k2⟩
theorem Fs.Cover.put {F : Fs} (h : F.Cover) (a : Nat) (name : ByteArray) (id : Nat) : (F.put a name id).Cover := by
 obtain ⟨b, e⟩ := F.put_setI a name id
 rw [e]
 exact (h.setI a ⟨(F.at a).f0, (F.at a).f1 ++ [⟨name, id⟩], (F.at a).f2, (F.at a).f3, (F.at a).f4⟩ (fun _ => rfl)).setI b (Item.linked ((F.setI a ⟨(F.at a).f0, (F.at a).f1 ++ [⟨name, id⟩], (F.at a).f2, (F.at a).f3, (F.at a).f4⟩).at b)) (fun _ => rfl)
theorem Fs.make_over (F : Fs) (n : Node) (up : Int) : ((F.make n up).at F.I.length).f3 = 0 := by
 unfold Fs.at Fs.make
 simp only
 rw [List.getD_eq_getElem?_getD, List.getElem?_append_right (Nat.le_refl _), Nat.sub_self]
 rfl
theorem Fs.Cover.make {F : Fs} (h : F.Cover) (n : Node) (up : Int) : (F.make n up).Cover := by
 refine ⟨fun i hi => ?_, fun d hd => ?_⟩
 ·rw [Fs.make_len] at hi
  by_cases c : i = F.I.length
  ·subst c; exact .inl (Fs.make_over F n up)
  ·rw [Fs.make_at F n up i (by omega)]; exact h.over i (by omega)
 ·obtain ⟨k1, k2⟩ := h.first d hd
  rw [Fs.make_len, Fs.make_at F n up d k1]; exact ⟨by omega, k2⟩
theorem Fs.Cover.device {F : Fs} (h : F.Cover) (mode up : Int) : (F.device mode up).Cover ∧ ((F.device mode up).at F.I.length).f3 = 0 := by
 have h1 : Fs.Cover ⟨F.I, F.D, F.C ++ [0]⟩ := ⟨h.over, h.first⟩
 have h2 := h1.make (dirN ((F.C.length : Int) + 1) mode) up
 have h3 : ((F.device mode up).at F.I.length).f3 = 0 := Fs.make_over ⟨F.I, F.D, F.C ++ [0]⟩ _ up
 have hl : (F.device mode up).I.length = F.I.length + 1 := Fs.make_len ⟨F.I, F.D, F.C ++ [0]⟩ _ up
 refine ⟨⟨fun i hi => ?_, fun d hd => ?_⟩, h3⟩
 ·rcases h2.over i hi with k | ⟨d, k, k'⟩
  ·exact .inl k
  ·exact .inr ⟨d, k, List.mem_append_left _ k'⟩
 ·rcases List.mem_append.1 (show (d : Int) ∈ F.D ++ [(F.I.length : Int)] from hd) with k | k
  ·exact h2.first d k
  ·have : d = F.I.length := by have := List.mem_singleton.1 k; omega
   subst this
   exact ⟨by rw [hl]; omega, h3⟩
theorem Fs.Cover.step {F : Fs} (h : F.Cover) (c : Chg) : (F.doF c).Cover := by
 unfold Fs.doF
 by_cases e0 : F.doE c ≠ 0
 ·rw [if_pos e0]; exact h
 rw [if_neg e0]
 replace e0 : F.doE c = 0 := by omega
 by_cases c2 : c.f0 = 2
 ·rw [if_pos c2]; exact h.put _ _ _
 rw [if_neg c2]
 by_cases c4 : c.f0 < 4
 ·rw [if_pos c4]; exact (h.make _ _).put _ _ _
 rw [if_neg c4]
 by_cases k4 : c.f0 = 4
 ·rw [if_pos k4]; exact h.setI _ _ (fun _ => rfl)
 rw [if_neg k4]
 by_cases k5 : c.f0 = 5
 ·rw [if_pos k5]; exact h.setI _ _ (fun _ => rfl)
 rw [if_neg k5]
 by_cases k6 : c.f0 = 6
 ·rw [if_pos k6]; exact h.setI _ _ (fun _ => rfl)
 rw [if_neg k6]
 by_cases k7 : c.f0 = 7
 ·rw [if_pos k7]
  unfold Fs.doE at e0
  rw [if_neg (by omega), if_neg c4] at e0
  have hh : F.has c.f2 = true := by
   by_cases hh : F.has c.f2 = true
   ·exact hh
   ·rw [if_neg hh] at e0; omega
  rw [if_pos hh, if_pos k7] at e0
  have hb : 0 ≤ c.f2 ∧ c.f2 < F.I.length := of_decide_eq_true hh
  have hD : F.D.contains c.f2 = false := by
   unfold Fs.mountE at e0
   cases hc : F.D.contains c.f2 with
   | false => rfl
   | true =>
    exfalso
    rw [hc] at e0
    revert e0
    split
    ·split <;> simp
    ·simp
  obtain ⟨k1, k3⟩ := h.device c.f5 (F.it c.f2).f2
  have hl : (F.device c.f5 (F.it c.f2).f2).I.length = F.I.length + 1 := Fs.make_len ⟨F.I, F.D, F.C ++ [0]⟩ _ _
  have hGe : (F.device c.f5 (F.it c.f2).f2).D = F.D ++ [(F.I.length : Int)] := rfl
  generalize F.device c.f5 (F.it c.f2).f2 = G at k1 k3 hl hGe ⊢
  have hGD : ∀ d : Nat, (d : Int) ∈ G.D → d ≠ c.f2.toNat := by
   intro d hd e
   rw [hGe] at hd
   rcases List.mem_append.1 hd with k | k
   ·have : (d : Int) = c.f2 := by omega
    rw [this, ← List.contains_iff_mem, hD] at k
    cases k
   ·have := List.mem_singleton.1 k; omega
  refine ⟨fun i hi => ?_, fun d hd => ?_⟩
  ·rw [Fs.len_setI] at hi
   rw [Fs.at_setI G _ i _ hi]
   by_cases q : c.f2.toNat = i
   ·rw [if_pos q]; exact .inr ⟨F.I.length, rfl, by show (F.I.length : Int) ∈ G.D; rw [hGe]; simp⟩
   ·rw [if_neg q]; exact k1.over i hi
  ·obtain ⟨q1, q2⟩ := k1.first d hd
   rw [Fs.len_setI, Fs.at_setI G _ d _ q1, if_neg (fun e => hGD d hd e.symm)]
   exact ⟨q1, q2⟩
 rw [if_neg k7]
 exact h.setI _ _ (fun _ => rfl)
theorem Fs.new_cover : Fs.new.Cover := by
 refine ⟨fun i hi => ?_, fun d hd => ?_⟩
 ·obtain rfl : i = 0 := by have : Fs.new.I.length = 1 := rfl; omega
  exact .inl rfl
 ·have : Fs.new.D = [0] := rfl
  rw [this] at hd
  obtain rfl : d = 0 := by have := List.mem_singleton.1 hd; omega
  exact ⟨by decide, rfl⟩
theorem run_cover (l : List Chg) : (Fs.run l).Cover := by
 have key : ∀ n, ∀ l : List Chg, l.length = n → (Fs.run l).Cover := by
  intro n
  induction n with
  | zero =>
   intro l hl
   obtain rfl := List.eq_nil_of_length_eq_zero hl
   exact Fs.new_cover
  | succ n ih =>
   intro l hl
   rcases List.eq_nil_or_concat l with rfl | ⟨l', c, rfl⟩
   ·simp at hl
   ·rw [List.concat_eq_append] at hl ⊢
    have hl' : l'.length = n := by simpa using hl
    rw [Fs.run_snoc]
    exact (ih l' hl').step c
 exact key _ l rfl
end Go.Proofs.YtcbjkfhflmlniaaDoor.QVfs
end

section
namespace Go.Proofs.YtcbjkfhflmlniaaDoor.QVfs
open Go.RowKit Go.Proofs.YtcbjkfhflmlniaaDoorW.PrintWords Go.Proofs.YtcbjkfhflmlniaaDoorW.PrintLast Go.Proofs.YtcbjkfhflmlniaaDoorW.PrintMore
set_option linter.unusedVariables false
set_option linter.unusedSimpArgs false
def Fs.Text (F : Fs) : Prop := ∀ i, i < F.I.length → (F.at i).f0.f10.size ≤ 4096
theorem Fs.Text.setI {F : Fs} (h : F.Text) (a : Nat) (x : Item) (hx : a < F.I.length → x.f0.f10 = (F.at a).f0.f10) : (F.setI a x).Text := by
 intro i hi
 rw [Fs.len_setI] at hi
 rw [Fs.at_setI F a i x hi]
 by_cases c : a = i
 ·subst c; rw [if_pos rfl, hx hi]; exact h a hi
 ·rw [if_neg c]; exact h i hi
theorem Fs.Text.put {F : Fs} (h : F.Text) (a : Nat) (name : ByteArray) (id : Nat) : (F.put a name id).Text := by
 obtain ⟨b, e⟩ := F.put_setI a name id
 rw [e]
 exact (h.setI a ⟨(F.at a).f0, (F.at a).f1 ++ [⟨name, id⟩], (F.at a).f2, (F.at a).f3, (F.at a).f4⟩ (fun _ => rfl)).setI b (Item.linked ((F.setI a ⟨(F.at a).f0, (F.at a).f1 ++ [⟨name, id⟩], (F.at a).f2, (F.at a).f3, (F.at a).f4⟩).at b)) (fun _ => rfl)
theorem Fs.make_text (F : Fs) (n : Node) (up : Int) : ((F.make n up).at F.I.length).f0.f10 = n.f10 := by
 unfold Fs.at Fs.make
 simp only
 rw [List.getD_eq_getElem?_getD, List.getElem?_append_right (Nat.le_refl _), Nat.sub_self]
 rfl
theorem Fs.Text.make {F : Fs} (h : F.Text) (n : Node) (up : Int) (hn : n.f10.size ≤ 4096) : (F.make n up).Text := by
 intro i hi
 rw [Fs.make_len] at hi
 by_cases c : i = F.I.length
 ·subst c; rw [Fs.make_text]; exact hn
 ·rw [Fs.make_at F n up i (by omega)]; exact h i (by omega)
theorem Fs.Text.device {F : Fs} (h : F.Text) (mode up : Int) : (F.device mode up).Text := by
 have h1 : Fs.Text ⟨F.I, F.D, F.C ++ [0]⟩ := h
 exact h1.make (dirN ((F.C.length : Int) + 1) mode) up (Nat.zero_le _)
theorem Fs.Text.step {F : Fs} (h : F.Text) (c : Chg) : (F.doF c).Text := by
 unfold Fs.doF
 by_cases e0 : F.doE c ≠ 0
 ·rw [if_pos e0]; exact h
 rw [if_neg e0]
 replace e0 : F.doE c = 0 := by omega
 by_cases c2 : c.f0 = 2
 ·rw [if_pos c2]; exact h.put _ _ _
 rw [if_neg c2]
 unfold Fs.doE at e0
 by_cases nb : c.f0 < 0 ∨ 8 < c.f0
 ·rw [if_pos nb] at e0; omega
 rw [if_neg nb] at e0
 by_cases c4 : c.f0 < 4
 ·rw [if_pos c4]
  rw [if_pos c4] at e0
  have hw : F.wrongE c = 0 := by
   by_cases hw : F.wrongE c = 0
   ·exact hw
   ·rw [if_neg hw] at e0; exact absurd e0 hw
  refine Fs.Text.put (h.make _ _ ?_) _ _ _
  unfold newN
  split
  ·exact Nat.zero_le _
  ·split
   ·rename_i c3
    have hfit := (Fs.wrongE_zero hw).2
    unfold Fs.fitsE at hfit
    rw [if_neg (by omega), if_neg (by omega), if_pos c3] at hfit
    show c.f4.size ≤ 4096
    rcases Nat.lt_or_ge 4096 c.f4.size with g | g
    ·exfalso
     split at hfit
     ·cases hfit
     ·rw [if_pos (by omega)] at hfit; cases hfit
    ·exact g
   ·exact Nat.zero_le _
 rw [if_neg c4]
 by_cases k4 : c.f0 = 4
 ·rw [if_pos k4]; exact h.setI _ _ (fun _ => rfl)
 rw [if_neg k4]
 by_cases k5 : c.f0 = 5
 ·rw [if_pos k5]; exact h.setI _ _ (fun _ => rfl)
 rw [if_neg k5]
 by_cases k6 : c.f0 = 6
 ·rw [if_pos k6]; exact h.setI _ _ (fun _ => rfl)
 rw [if_neg k6]
 by_cases k7 : c.f0 = 7
 ·rw [if_pos k7]; exact (h.device _ _).setI _ _ (fun _ => rfl)
 rw [if_neg k7]
 exact h.setI _ _ (fun _ => rfl)
theorem run_text (l : List Chg) : (Fs.run l).Text := by
 have key : ∀ n, ∀ l : List Chg, l.length = n → (Fs.run l).Text := by
  intro n
  induction n with
  | zero =>
   intro l hl
   obtain rfl := List.eq_nil_of_length_eq_zero hl
   intro i hi
   obtain rfl : i = 0 := by have : (Fs.run []).I.length = 1 := rfl; omega
   exact Nat.zero_le _
  | succ n ih =>
   intro l hl
   rcases List.eq_nil_or_concat l with rfl | ⟨l', c, rfl⟩
   ·simp at hl
   ·rw [List.concat_eq_append] at hl ⊢
    have hl' : l'.length = n := by simpa using hl
    rw [Fs.run_snoc]
    exact (ih l' hl').step c
 exact key _ l rfl
theorem Fs.Text.link {F : Fs} (h : F.Text) (id : Int) : (F.linkT id).size ≤ 100000 := by
 unfold Fs.linkT
 split
 ·rename_i hh
  have hb : 0 ≤ id ∧ id < F.I.length := of_decide_eq_true hh
  split
  ·split
   ·exact Nat.zero_le _
   ·rw [Fs.it_nat F hb.1]
    exact Nat.le_trans (h id.toNat (by omega)) (by decide)
  ·exact Nat.zero_le _
 ·exact Nat.zero_le _
structure Fs.Fine (F : Fs) : Prop where
 text : ∀ id, (F.linkT id).size ≤ 100000
 ents : ∀ i, (F.at i).f1.length ≤ 100000
 fixed : F.fixed
theorem made_fs (A : Option Addr) (l : List Chg) (cp : Nat) (w : World) (hC : Kd.C k59 w A l.length l) (hc : l.length ≤ cp) (n : Int) (hn : n ≤ 400) (hf : fewB l n = true) (h7 : ∀ x ∈ l, x.f7 ≤ 9223372036854775807) :
  Calls Tryd.prog 11 #[.slice A l.length cp] w fun e w' => ∃ g S0 m0 d0 S1 m1 d1 S2 m2 d2 S3 m3 d3 S4 m4 d4 S5 m5 d5, e = .returned (.tuple #[.pointer (some ⟨g, 0, none⟩), .agg #[.slice S0 m0 d0, .slice S1 m1 d1, .slice S2 m2 d2, .slice S3 m3 d3, .slice S4 m4 d4, .slice S5 m5 d5]]) ∧ w.heap.size ≤ g ∧ FsAt g g (fun k => g ≤ k) (Fs.run l) w' ∧ Below w.heap.size w w' := by
 obtain ⟨h1, h2⟩ := few_small hf hn h7
 refine (made_calls A l cp w hC hc h1 (by omega)).mono ?_
 rintro e w' ⟨g, us, rfl, hg, hB, hb⟩
 obtain ⟨A0, c0, A1, c1, A2, c2, A3, c3, A4, c4, A5, c5, rfl⟩ := hB.form
 exact ⟨g, _, _, _, _, _, _, _, _, _, _, _, _, _, _, _, _, _, _, rfl, hg, hB.fs, hb⟩
theorem run_fine (l : List Chg) {n : Int} (hn : n ≤ 400) (hf : fewB l n = true) (h7 : ∀ x ∈ l, x.f7 ≤ 9223372036854775807) : (Fs.run l).Fine := by
 obtain ⟨_, h2⟩ := few_small hf hn h7
 have hO := (run_ok l).1
 exact ⟨(run_text l).link, fun i => Nat.le_trans (hO.at_ent i) (by omega), (run_cover l).fixed⟩
end Go.Proofs.YtcbjkfhflmlniaaDoor.QVfs
end
