import Derived.Test.YtcbjkfhflmlniaaDoorKPuM
import Derived.Test.YtcbjkfhflmlniaaDoorKXPa7
import Derived.Test.YtcbjkfhflmlniaaDoorKXExt
import Derived.Test.YtcbjkfhflmlniaaDoorRows
import Derived.Test.YtcbjkfhflmlniaaDoorKVRow
import Derived.WalkKit
import Derived.ProofKit
import Derived.OpenShut
import Derived.ShutString
import Derived.ChangeOld
import Derived.Below
import Derived.SizedLaws
import Derived.Test.YtcbjkfhflmlniaaDoorCards
import Derived.Test.YtcbjkfhflmlniaaDoorTie
import Derived.Lay
import Derived.LaidOnce
import Derived.SevenTiedAt
import Derived.LaidLaws
import Derived.Handed
import Derived.Laws.StructEq
-- Texts of this seat, what the claim does not reach struck out by a program.
section
namespace Go.Proofs.YtcbjkfhflmlniaaDoorW.PrintWords
open Go.RowKit
section
variable {P : Program} {d : Nat} {xs ys : Array Value} {f : Field} {fs : List Field} {a b : Value} {r s : Bool} {w : World}
theorem eqf_last (hn : (f.name == "_") = false) (ha : (part f.type xs f.offset).run P w = .ok a w) (hb : (part f.type ys f.offset).run P w = .ok b w) (he : (Op.equalIn d f.type a b).run P w = .ok r w) : (Op.eqFields d xs ys [f]).run P w = .ok r w := by
 have hn' : f.name ≠ "_" := by simpa using hn
 simp only [Op.eqFields, if_pos hn', Sem.run_bind, ha, hb, he, Result.andThen_ok]
 cases r <;> simp
theorem eqf_cons (hn : (f.name == "_") = false) (ha : (part f.type xs f.offset).run P w = .ok a w) (hb : (part f.type ys f.offset).run P w = .ok b w) (he : (Op.equalIn d f.type a b).run P w = .ok r w) (hr : (Op.eqFields d xs ys fs).run P w = .ok s w) : (Op.eqFields d xs ys (f :: fs)).run P w = .ok (r && s) w := by
 have hn' : f.name ≠ "_" := by simpa using hn
 rw [Op.eqFields]
 simp only [if_pos hn', Sem.run_bind, ha, hb, he, Result.andThen_ok]
 cases r
 ·simp
 ·simpa using hr
theorem eqA_of {t : TypeId} {fs : Array Field} (hu : P.underlying t = some (.struct fs)) (hp : P.stoodInHeld t = false) (h : (Op.eqFields d xs ys fs.toList).run P w = .ok r w) : (Op.equalIn (d + 1) t (.agg xs) (.agg ys)).run P w = .ok r w := by
 have hf : P.fieldsOf t = fs := by simp [Program.fieldsOf, hu]
 rw [run_equalIn_struct (P := P) w d t xs ys (by rw [hf]; exact hu) hp, hf]
 exact h
end
end Go.Proofs.YtcbjkfhflmlniaaDoorW.PrintWords
end
section
namespace Go.Proofs.YtcbjkfhflmlniaaDoor.QVfs
open Go.RowKit Go.Lib Go.Proofs.YtcbjkfhflmlniaaDoor.PathMath Go.Proofs.YtcbjkfhflmlniaaDoorW.PrintWords Go.Proofs.YtcbjkfhflmlniaaDoorW.PrintLast Go.Proofs.YtcbjkfhflmlniaaDoorW.PrintMore
set_option linter.unusedVariables false
set_option linter.unusedSimpArgs false
theorem Wk.step_dot {F : Fs} {u g : Int} {S : Wk} (h : F.mayE u g S.id dotB = 0) : Wk.step F u g S dotB = (0, S.to F S.id) := by
 unfold Wk.step
 rw [if_pos h, if_pos rfl]
def dbl : List UInt8 → List UInt8
 | [] => []
 | c :: cs => if c = 47 then 47 :: 47 :: dbl cs else c :: dbl cs
theorem nm_dbl : ∀ (l cur : List UInt8), PathMath.nm cur (dbl l) = PathMath.nm cur l
 | [], _ => rfl
 | c :: l, cur => by
  rw [dbl]
  by_cases h : c = 47
  ·subst h
   rw [if_pos rfl, PathMath.nm, if_pos rfl, PathMath.nm, if_pos rfl, if_pos rfl, PathMath.nm, if_pos rfl, nm_dbl l []]
  ·rw [if_neg h, PathMath.nm, if_neg h, PathMath.nm, if_neg h, nm_dbl l]
theorem last_dbl : ∀ (l : List UInt8), (dbl l).getLast? = l.getLast?
 | [] => rfl
 | [c] => by
  rw [dbl]
  split
  ·rename_i h; subst h; rfl
  ·rfl
 | c :: d :: l => by
  have ih := last_dbl (d :: l)
  have hne : dbl (d :: l) ≠ [] := by rw [dbl]; split <;> simp
  obtain ⟨x, y, hxy⟩ := List.exists_cons_of_ne_nil hne
  rw [dbl, hxy]
  rw [hxy] at ih
  split
  ·simp only [List.getLast?_cons_cons] at ih ⊢; exact ih
  ·simp only [List.getLast?_cons_cons] at ih ⊢; exact ih
theorem dbl_len : ∀ (l : List UInt8), l.length ≤ (dbl l).length ∧ (dbl l).length ≤ 2 * l.length
 | [] => ⟨Nat.le_refl _, Nat.le_refl _⟩
 | c :: l => by
  have := dbl_len l
  rw [dbl]
  split <;> simp only [List.length_cons] <;> omega
theorem walked_dbl {F : Fs} {u g : Int} {s t : ByteArray} (ht : Ls t = dbl (Ls s)) (hl : s.size ≤ 2000) {f : Bool} {r q : Array Value × Int} (hr : F.walked u g s f r) (hq : F.walked u g t f q) : r = q := by
 have hz := dbl_len (Ls s)
 rw [← ht, Ls_len, Ls_len] at hz
 have hst : startW F t f = startW F s f := by
  have h1 : namesOf t = namesOf s := by rw [namesOf_eq, namesOf_eq, ht, nm_dbl]
  have h2 : ends t = ends s := by rw [ends_eq, ends_eq, ht, last_dbl]
  unfold startW
  rw [h1, h2]
 rcases hr with ⟨h, e⟩ | ⟨h, e⟩ | ⟨_, _, e, S, hw, e1⟩
 ·rcases hq with ⟨h', e'⟩ | ⟨h', e'⟩ | ⟨h', _⟩
  ·rw [e, e']
  ·omega
  ·omega
 ·omega
 ·rcases hq with ⟨h', e'⟩ | ⟨h', e'⟩ | ⟨_, _, e', S', hw', e1'⟩
  ·omega
  ·omega
  ·rw [hst] at hw'
   obtain ⟨rfl, rfl⟩ := Walks.det hw hw'
   rw [e1, e1']
theorem Wk.link_over {F : Fs} {S : Wk} {id dir : Int} (h : (S.link F id dir).1 = 0) : ∃ x, (S.link F id dir).2.id = F.overE x := by
 unfold Wk.link at h ⊢
 split
 ·rename_i c; rw [if_pos c] at h; cases h
 ·rename_i c
  rw [if_neg c] at h
  split
  ·simp only
   split
   ·exact ⟨0, rfl⟩
   ·exact ⟨dir, rfl⟩
  ·rename_i c2; rw [if_neg c2] at h; exact absurd h c2
theorem Wk.step_over {F : Fs} {u g : Int} {S : Wk} {name : ByteArray} (h : (Wk.step F u g S name).1 = 0) : ∃ x, (Wk.step F u g S name).2.id = F.overE x := by
 unfold Wk.step at h ⊢
 split
 ·rename_i c
  rw [if_pos c] at h
  split
  ·exact ⟨_, rfl⟩
  ·rename_i c1
   rw [if_neg c1] at h
   split
   ·exact ⟨_, rfl⟩
   ·rename_i c2
    rw [if_neg c2] at h
    unfold Wk.entry at h ⊢
    split
    ·rename_i c3
     rw [if_pos c3] at h
     split
     ·rename_i c4; rw [c4] at h; cases h
     ·rename_i x c4
      rw [c4] at h
      simp only at h
      split
      ·rename_i c5
       rw [if_pos c5] at h
       exact Wk.link_over h
      ·exact ⟨_, rfl⟩
    ·rename_i c3
     rw [if_neg c3] at h
     exact absurd h c3
 ·rename_i c
  rw [if_neg c] at h
  exact absurd h c
def outR (F : Fs) (e : Int) (S : Wk) : Int × Int := if e = 0 then (if S.slash = true ∧ (F.nodeN S.id).f2 ≠ 2 then (3, 0) else (0, S.id)) else (e, 0)
theorem Walks.dots {F : Fs} {g : Int} (hF : F.fixed) {T T2 : Wk} {e2 : Int} (h : Walks F 0 g T e2 T2) : ∀ {S S2 : Wk} {e : Int}, DotR S T → F.overE S.id = S.id → Walks F 0 g S e S2 → outR F e S2 = outR F e2 T2 := by
 induction h with
 | @done T h =>
  intro S S2 e hR hi hS
  have hl : S.left = [] := by
   have hd := hR.left
   rw [h] at hd
   generalize S.left = l at hd ⊢
   cases hd; rfl
  cases hS with
  | done _ => unfold outR; rw [hR.slash, hR.id]
  | stop h' => rw [hl] at h'; cases h'
  | on h' => rw [hl] at h'; cases h'
 | @stop T T' e2 name r h hs he =>
  intro S S2 e hR hi hS
  have hd := hR.left
  rw [h] at hd
  generalize hSl : S.left = l at hd
  cases hd with
  | @cons r0 _ _ hd' =>
   have hR' : DotR { S with left := r0 } { T with left := r } := ⟨hR.id, hR.hops, hR.follow, hR.slash, hd'⟩
   obtain ⟨k1, k2⟩ := hR'.step (F := F) (u := 0) (g := g) name
   rw [hs] at k1
   have hss : Wk.step F 0 g { S with left := r0 } name = (e2, (Wk.step F 0 g { S with left := r0 } name).2) := Prod.ext k1.symm rfl
   obtain ⟨rfl, rfl⟩ := Walks.det hS (Walks.stop hSl hss he)
   unfold outR; rw [if_neg he, if_neg he]
  | ins hc hd' =>
   have hk : (F.nodeN S.id).f2 ≠ 2 := by
    intro hk
    rw [Wk.step_dot (S := { T with left := r }) (Fs.may_dir (by show (F.nodeN T.id).f2 = 2; rw [hR.id]; exact hk) (by decide))] at hs
    exact he (Prod.mk.inj hs).1.symm
   have he3 : e2 = 3 := by
    rw [Wk.step_no (S := { T with left := r }) (Fs.may_no (by show (F.nodeN T.id).f2 ≠ 2; rw [hR.id]; exact hk)) (by decide)] at hs
    exact (Prod.mk.inj hs).1.symm
   subst he3
   cases hl : l with
   | nil =>
    rw [hl] at hSl hc
    obtain ⟨rfl, hT⟩ := Walks.det hS (Walks.done hSl)
    rw [hT]
    have hsl : S.slash = true := hc.elim (fun h => absurd rfl h) id
    unfold outR; rw [if_pos rfl, if_pos ⟨hsl, hk⟩]; rfl
   | cons m q =>
    rw [hl] at hSl
    have hss := Wk.step_no (F := F) (u := 0) (g := g) (S := { S with left := q }) (name := m) (Fs.may_no hk) (by decide)
    obtain ⟨rfl, rfl⟩ := Walks.det hS (Walks.stop hSl hss (by decide))
    rfl
 | @on T T' T2 e2 name r h hs hw ih =>
  intro S S2 e hR hi hS
  have hd := hR.left
  rw [h] at hd
  generalize hSl : S.left = l at hd
  cases hd with
  | @cons r0 _ _ hd' =>
   have hR' : DotR { S with left := r0 } { T with left := r } := ⟨hR.id, hR.hops, hR.follow, hR.slash, hd'⟩
   obtain ⟨k1, k2⟩ := hR'.step (F := F) (u := 0) (g := g) name
   rw [hs] at k1 k2
   obtain ⟨x, hx⟩ := Wk.step_over k1.symm
   have hss : Wk.step F 0 g { S with left := r0 } name = (0, (Wk.step F 0 g { S with left := r0 } name).2) := Prod.ext k1.symm rfl
   cases hS with
   | done h' => rw [hSl] at h'; cases h'
   | stop h' hs' he' =>
    rw [hSl] at h'
    cases h'
    rw [hss] at hs'
    exact absurd (Prod.mk.inj hs').1.symm he'
   | on h' hs' hw' =>
    rw [hSl] at h'
    cases h'
    have := (Prod.mk.inj (hss.symm.trans hs')).2
    subst this
    exact ih k2 (by rw [hx]; exact hF x) hw'
  | ins hc hd' =>
   have hT : T' = Wk.to F { T with left := r } S.id := by
    by_cases hk : (F.nodeN S.id).f2 = 2
    ·rw [Wk.step_dot (S := { T with left := r }) (Fs.may_dir (by show (F.nodeN T.id).f2 = 2; rw [hR.id]; exact hk) (by decide))] at hs
     rw [← (Prod.mk.inj hs).2, ← hR.id]
    ·rw [Wk.step_no (S := { T with left := r }) (Fs.may_no (by show (F.nodeN T.id).f2 ≠ 2; rw [hR.id]; exact hk)) (by decide)] at hs
     exact absurd (Prod.mk.inj hs).1 (by decide)
   subst hT
   exact ih ⟨hi, hR.hops, hR.follow, hR.slash, by rw [hSl]; exact hd'⟩ hi hS
def dts : List UInt8 → List UInt8
 | [] => []
 | [c] => [c]
 | c :: d :: cs => if c = 47 then 47 :: 46 :: 47 :: dts (d :: cs) else c :: dts (d :: cs)
theorem nm_nil : ∀ (l cur : List UInt8), PathMath.nm cur l = [] → l ≠ [] → l.getLast? = some 47
 | [], _, _, h => absurd rfl h
 | [c], cur, h, _ => by
  rw [PathMath.nm] at h
  by_cases g : c = 47
  ·subst g; rfl
  ·rw [if_neg g, PathMath.nm, if_neg (by simp)] at h; cases h
 | c :: d :: l, cur, h, _ => by
  rw [List.getLast?_cons_cons]
  rw [PathMath.nm] at h
  by_cases g : c = 47
  ·rw [if_pos g] at h
   split at h
   ·exact nm_nil _ _ h (by simp)
   ·cases h
  ·rw [if_neg g] at h; exact nm_nil _ _ h (by simp)
theorem dots_nm : ∀ (l cur : List UInt8) (sl : Bool), (l.getLast? = some 47 → sl = true) → Dots sl ((PathMath.nm cur l).map Bs) ((PathMath.nm cur (dts l)).map Bs)
 | [], cur, sl, _ => Dots.refl _ _
 | [c], cur, sl, _ => Dots.refl _ _
 | c :: d :: l, cur, sl, hs => by
  have hs' : (d :: l).getLast? = some 47 → sl = true := fun h => hs (by rw [List.getLast?_cons_cons]; exact h)
  rw [dts]
  by_cases g : c = 47
  ·subst g
   have e1 : PathMath.nm cur (47 :: d :: l) = PathMath.nm cur [] ++ PathMath.nm [] (d :: l) := nm_cut [] cur (d :: l)
   have e2 : PathMath.nm cur (47 :: 46 :: 47 :: dts (d :: l)) = PathMath.nm cur [] ++ ([46] :: PathMath.nm [] (dts (d :: l))) := by
    rw [show 47 :: 46 :: 47 :: dts (d :: l) = [] ++ 47 :: ([46] ++ 47 :: dts (d :: l)) from rfl, nm_cut, nm_cut]
    rfl
   rw [if_pos rfl, e1, e2, List.map_append, List.map_append, List.map_cons]
   refine Dots.app (Dots.ins ?_ (dots_nm (d :: l) [] sl hs')) _
   by_cases hn : PathMath.nm [] (d :: l) = []
   ·exact .inr (hs' (nm_nil _ _ hn (by simp)))
   ·exact .inl (by simpa using hn)
  ·have e1 : PathMath.nm cur (c :: d :: l) = PathMath.nm (cur ++ [c]) (d :: l) := by rw [PathMath.nm, if_neg g]
   have e2 : PathMath.nm cur (c :: dts (d :: l)) = PathMath.nm (cur ++ [c]) (dts (d :: l)) := by rw [PathMath.nm, if_neg g]
   rw [if_neg g, e1, e2]
   exact dots_nm (d :: l) _ sl hs'
theorem dts_ne (c : UInt8) (l : List UInt8) : dts (c :: l) ≠ [] := by
 cases l with
 | nil => simp [dts]
 | cons d l => rw [dts]; split <;> simp
theorem last_dts : ∀ (l : List UInt8), (dts l).getLast? = l.getLast?
 | [] => rfl
 | [c] => rfl
 | c :: d :: l => by
  have ih := last_dts (d :: l)
  obtain ⟨x, y, hxy⟩ := List.exists_cons_of_ne_nil (dts_ne d l)
  rw [dts, hxy]
  rw [hxy] at ih
  split <;> simp only [List.getLast?_cons_cons] at ih ⊢ <;> exact ih
theorem dts_len : ∀ (l : List UInt8), l.length ≤ (dts l).length ∧ (dts l).length ≤ 3 * l.length
 | [] => ⟨Nat.le_refl _, Nat.le_refl _⟩
 | [c] => by simp [dts]
 | c :: d :: l => by
  have := dts_len (d :: l)
  rw [dts]
  simp only [List.length_cons] at this ⊢
  split <;> simp only [List.length_cons] <;> omega
theorem walked_dots {F : Fs} (hF : F.fixed) {g : Int} {s t : ByteArray} (h0 : 0 < s.size) (ht : Ls t = dts (Ls s)) (hl : s.size ≤ 1000) {f : Bool} {r q : Array Value × Int} (hr : F.walked 0 g s f r) (hq : F.walked 0 g t f q) :
  r.2 = q.2 ∧ ∃ a b : Array Value, ∃ x d n c d' n' c', r.1 = #[.int .i64 x, d, n, c] ∧ q.1 = #[.int .i64 x, d', n', c'] := by
 have hz := dts_len (Ls s)
 rw [← ht, Ls_len, Ls_len] at hz
 obtain ⟨e, S, hw, hre⟩ : ∃ e S, Walks F 0 g (startW F s f) e S ∧ r = F.answer e S := by
  rcases hr with ⟨h, _⟩ | ⟨h, _⟩ | ⟨_, _, h⟩
  ·omega
  ·omega
  ·exact h
 obtain ⟨e2, T, hw2, hqe⟩ : ∃ e S, Walks F 0 g (startW F t f) e S ∧ q = F.answer e S := by
  rcases hq with ⟨h, _⟩ | ⟨h, _⟩ | ⟨_, _, h⟩
  ·omega
  ·omega
  ·exact h
 have hR : DotR (startW F s f) (startW F t f) := by
  refine ⟨rfl, rfl, rfl, ?_, ?_⟩
  ·show ends t = ends s
   rw [ends_eq, ends_eq, ht, last_dts]
  ·show Dots (ends s) (namesOf s) (namesOf t)
   rw [namesOf_eq, namesOf_eq, ht]
   exact dots_nm _ _ _ (fun h => by rw [ends_eq, h]; rfl)
 have hO := Walks.dots hF hw2 hR (hF 0) hw
 subst hre hqe
 have key : ∀ (e : Int) (S : Wk), (F.answer e S).2 = (outR F e S).1 ∧ ∃ d n c, (F.answer e S).1 = #[.int .i64 (outR F e S).2, d, n, c] := by
  intro e S
  unfold Fs.answer outR
  split
  ·split
   ·exact ⟨rfl, _, _, _, rfl⟩
   ·exact ⟨rfl, _, _, _, rfl⟩
  ·exact ⟨rfl, _, _, _, rfl⟩
 obtain ⟨k1, d, n, c, k2⟩ := key e S
 obtain ⟨k3, d', n', c', k4⟩ := key e2 T
 refine ⟨by rw [k1, k3, hO], #[], #[], (outR F e S).2, d, n, c, d', n', c', k2, ?_⟩
 rw [hO]; exact k4
end Go.Proofs.YtcbjkfhflmlniaaDoor.QVfs
end
section
namespace Go.Proofs.YtcbjkfhflmlniaaDoor.QVfs
open Go.RowKit Go.Proofs.YtcbjkfhflmlniaaDoorW.PrintWords Go.Proofs.YtcbjkfhflmlniaaDoorW.PrintLast Go.Proofs.YtcbjkfhflmlniaaDoorW.PrintMore
set_option linter.unusedVariables false
set_option linter.unusedSimpArgs false
abbrev TAsk : Nat := 32
abbrev TPl2 : Nat := 44
theorem ask_cells {A : Option Addr} {n c : Nat} {uid gid : Int} {path : ByteArray} {follow : Bool} {W : World} {b : Nat} (h : W.heap[b]? = some (.cells #[.slice A n c, .int .i64 uid, .int .i64 gid, .string path, .bool follow] TAsk (0, 0))) :
  W.cell? ⟨b, 0, none⟩ = some (.slice A n c) ∧ W.cell? ⟨b, 1, none⟩ = some (.int .i64 uid) ∧ W.cell? ⟨b, 2, none⟩ = some (.int .i64 gid) ∧ W.cell? ⟨b, 3, none⟩ = some (.string path) ∧ W.cell? ⟨b, 4, none⟩ = some (.bool follow) :=
 ⟨blk_cell h 0, blk_cell h 1, blk_cell h 2, blk_cell h 3, blk_cell h 4⟩
theorem place_cells {x y hp : Int} {n : ByteArray} {W : World} {b : Nat} (h : W.heap[b]? = some (.cells #[.int .i64 x, .int .i64 y, .string n, .int .i64 hp] TPl2 (0, 0))) :
  W.cell? ⟨b, 0, none⟩ = some (.int .i64 x) ∧ W.cell? ⟨b, 1, none⟩ = some (.int .i64 y) ∧ W.cell? ⟨b, 2, none⟩ = some (.string n) ∧ W.cell? ⟨b, 3, none⟩ = some (.int .i64 hp) :=
 ⟨blk_cell h 0, blk_cell h 1, blk_cell h 2, blk_cell h 3⟩
theorem blk_on {W W' : World} {b : Nat} {o : Obj} (h : W.heap[b]? = some o) (hb : Below W.heap.size W W') : W'.heap[b]? = some o := (hb.block _ (blk_lt h)).trans h
theorem asked_few (A : Option Addr) (c : Nat) (l : List Chg) (uid gid : Int) (path : ByteArray) (follow : Bool) (n : Int) (w : World) (hC : Kd.C k59 w A l.length l) (hc : l.length ≤ c) :
  Calls Tryd.prog 10 #[.agg #[.slice A l.length c, .int .i64 uid, .int .i64 gid, .string path, .bool follow], .int .i64 n] w fun e w' => e = .returned (.bool (fewB l n && decide ((path.size : Int) ≤ 5000))) ∧ Below w.heap.size w w' := by
 refine domesdaylaw08_Asked_Few.calls 1002 A c l uid gid path follow n _ w hC hc ?_
 unfold domesdaylaw08_Asked_Few.f
 have hf : domesdayref06_Few.f 1002 l n = some (fewB l n) := few_l l n 400 0 1002 (by rw [List.length_take]; omega) (Nat.zero_le _) (by omega)
 rw [hf, Option.bind_some]
 cases fewB l n
 ·rfl
 ·rfl
theorem walked_form {F : Fs} {u g : Int} {s : ByteArray} {f : Bool} {r : Array Value × Int} (h : F.walked u g s f r) : ∃ x y n h e, r = (#[.int .i64 x, .int .i64 y, .string n, .int .i64 h], e) := by
 rcases h with ⟨_, rfl⟩ | ⟨_, rfl⟩ | ⟨_, _, e, S, _, rfl⟩
 ·exact ⟨_, _, _, _, _, rfl⟩
 ·exact ⟨_, _, _, _, _, rfl⟩
 ·unfold Fs.answer
  split
  ·split
   ·exact ⟨_, _, _, _, _, rfl⟩
   ·exact ⟨_, _, _, _, _, rfl⟩
  ·exact ⟨_, _, _, _, _, rfl⟩
end Go.Proofs.YtcbjkfhflmlniaaDoor.QVfs
end
section
namespace Go.Proofs.YtcbjkfhflmlniaaDoor.QVfs
open Go.RowKit Go.Lib Go.Proofs.YtcbjkfhflmlniaaDoor.PathMath Go.Proofs.YtcbjkfhflmlniaaDoorW.PrintWords Go.Proofs.YtcbjkfhflmlniaaDoorW.PrintLast Go.Proofs.YtcbjkfhflmlniaaDoorW.PrintMore
set_option linter.unusedVariables false
set_option linter.unusedSimpArgs false
theorem eqPl (d : Nat) (w : World) (x y : Int) (n : ByteArray) (h : Int) :
  (Op.equalIn (d + 2) 44 (.agg #[.int .i64 x, .int .i64 y, .string n, .int .i64 h]) (.agg #[.int .i64 x, .int .i64 y, .string n, .int .i64 h])).run Tryd.prog w = .ok true w := by
 have := eqA_of (P := Tryd.prog) (d := d + 1) (w := w) (xs := #[.int .i64 x, .int .i64 y, .string n, .int .i64 h]) (ys := #[.int .i64 x, .int .i64 y, .string n, .int .i64 h]) Tryd.underlying44 (by kernel_rfl) (r := (x == x) && ((y == y) && ((n.toList == n.toList) && (h == h)))) (by
  refine eqf_cons (by rfl) (by go_simp; rfl) (by go_simp; rfl) (by go_simp) ?_
  refine eqf_cons (by rfl) (by go_simp; rfl) (by go_simp; rfl) (by go_simp) ?_
  refine eqf_cons (by rfl) (by go_simp; rfl) (by go_simp; rfl) (by go_simp) ?_
  exact eqf_last (by rfl) (by go_simp; rfl) (by go_simp; rfl) (by go_simp))
 simpa using this
attribute [local go_sem high] eqPl
theorem drop_at (p : ByteArray) (i : Nat) (h : i < p.size) : (Ls p).drop i = p[i] :: (Ls p).drop (i + 1) := by
 have h' : i < (Ls p).length := by rw [Ls_len]; exact h
 rw [List.drop_eq_getElem_cons h']; rfl
theorem one_at (p : ByteArray) (i : Nat) (h : i < p.size) : Ls (p.extract i (i + 1)) = [p[i]] := by
 show (p.extract i (i + 1)).data.toList = _
 have h' : i < (Ls p).length := by rw [Ls_len]; exact h
 rw [ByteArray.data_extract, Array.toList_extract, List.extract_eq_take_drop, show i + 1 - i = 1 by omega, List.drop_eq_getElem_cons (show i < p.data.toList.length from h')]
 rfl
theorem one_size (p : ByteArray) (i : Nat) (h : i < p.size) : (p.extract i (i + 1)).size = 1 := by rw [← Ls_len, one_at p i h]; rfl
theorem dbl_on {p s : List UInt8} {c : UInt8} {i : Nat} (h : s ++ dbl (p.drop i) = dbl p) (hd : p.drop i = c :: p.drop (i + 1)) : (s ++ (if c = 47 then [47, 47] else [c])) ++ dbl (p.drop (i + 1)) = dbl p := by
 rw [← h, hd, dbl]
 split <;> simp
theorem dts_on {p s : List UInt8} {c : UInt8} {i : Nat} (h : s ++ dts (p.drop i) = dts p) (hd : p.drop i = c :: p.drop (i + 1)) : (s ++ (if c = 47 ∧ p.drop (i + 1) ≠ [] then [47, 46, 47] else [c])) ++ dts (p.drop (i + 1)) = dts p := by
 rw [← h, hd]
 cases hr : p.drop (i + 1) with
 | nil => rw [if_neg (fun h => h.2 rfl)]; simp [dts]
 | cons d r =>
  rw [dts]
  by_cases g : c = 47
  ·rw [if_pos g, if_pos ⟨g, by simp⟩]; simp
  ·rw [if_neg g, if_neg (fun h => g h.1)]; simp
set_option maxHeartbeats 8000000 in
set_option maxRecDepth 100000 in
theorem more_not (A : Option Addr) (c : Nat) (l : List Chg) (uid gid : Int) (path : ByteArray) (follow : Bool) (w : World) (hC : Kd.C k59 w A l.length l) (hc : l.length ≤ c) (hf : ¬ (fewB l 30 = true ∧ path.size ≤ 500 ∧ path.size ≠ 0)) :
  Calls Tryd.prog 5 #[.agg #[.slice A l.length c, .int .i64 uid, .int .i64 gid, .string path, .bool follow]] w fun e w' => e = .returned (.bool true) ∧ Below w.heap.size w w' := by
 have cF := fun W (hb : Below w.heap.size w W) => asked_few A c l uid gid path follow 30 W (Kd.C_below hC hb) hc
 obtain ⟨t, ht⟩ : ∃ t, t = (fewB l 30 && decide ((path.size : Int) ≤ 5000)) := ⟨_, rfl⟩
 rw [← ht] at cF
 have hq : t = false ∨ (t = true ∧ decide ((500 : Int) < (path.size : Int)) = true) ∨ (t = true ∧ path = ⟨#[]⟩) := by
  cases t with
  | false => exact .inl rfl
  | true =>
   right
   have h1 : fewB l 30 = true := by
    cases hh : fewB l 30 with
    | true => rfl
    | false => rw [hh] at ht; cases ht
   by_cases h5 : path.size ≤ 500
   ·right
    have h0 : path.size = 0 := by
     by_cases h0 : path.size = 0
     ·exact h0
     ·exact absurd ⟨h1, h5, h0⟩ hf
    refine ⟨rfl, ?_⟩
    apply Ls_inj
    apply List.eq_nil_of_length_eq_zero
    rw [Ls_len]; exact h0
   ·left
    exact ⟨rfl, decide_eq_true (by omega)⟩
 have HF := Aside0.mk cF
 clear cF hC hf ht
 obtain ⟨b, hb⟩ : ∃ b, b = w.heap.size := ⟨_, rfl⟩
 obtain ⟨W0, hW0⟩ : ∃ W0, W0 = w.alloc (.cells #[.slice A l.length c, .int .i64 uid, .int .i64 gid, .string path, .bool follow] TAsk) := ⟨_, rfl⟩
 have HB0 : Aside0 (Below w.heap.size w W0) := ⟨by rw [hW0]; exact below_all _⟩
 have HA0 : Aside0 (W0.heap[b]? = some (.cells #[.slice A l.length c, .int .i64 uid, .int .i64 gid, .string path, .bool follow] TAsk (0, 0))) := ⟨by rw [hW0, hb]; exact heap_alloc_new w _⟩
 go_enter Tryd.func5, Tryd.ntmps5
 go_wp2_with fail
 rw [← hW0, ← hb]
 clear hW0 hb
 refine (awake_calls W0).mono ?_
 rintro e w1 ⟨rfl, h1⟩
 have HB1 := Aside0.mk (below_step HB0.out h1)
 have HA1 := Aside0.mk (blk_on HA0.out h1)
 clear h1 HB0 HA0
 obtain ⟨c0, c1, c2, c3, c4⟩ := ask_cells HA1.out
 go_wp2_with fail
 refine (HF.out w1 HB1.out).mono ?_
 rintro e w2 ⟨rfl, h2⟩
 have HB2 := Aside0.mk (below_step HB1.out h2)
 have HA2 := Aside0.mk (blk_on HA1.out h2)
 clear h2 HB1 HA1 c0 c1 c2 c3 c4
 obtain ⟨c0, c1, c2, c3, c4⟩ := ask_cells HA2.out
 rcases hq with rfl | ⟨rfl, d1⟩ | ⟨rfl, rfl⟩
 ·go_wp2_with fail
  refine (awake_calls w2).mono ?_
  rintro e w3 ⟨rfl, h3⟩
  have HB3 := Aside0.mk (below_step HB2.out h3)
  clear h3
  go_wp2
  go_ret
  exact ⟨rfl, HB3.out⟩
 ·go_wp2_with fail
  refine (awake_calls w2).mono ?_
  rintro e w3 ⟨rfl, h3⟩
  have HB3 := Aside0.mk (below_step HB2.out h3)
  clear h3
  go_wp2
  go_ret
  exact ⟨rfl, HB3.out⟩
 ·go_wp2_with fail
  refine (awake_calls w2).mono ?_
  rintro e w3 ⟨rfl, h3⟩
  have HB3 := Aside0.mk (below_step HB2.out h3)
  clear h3
  go_wp2
  go_ret
  exact ⟨rfl, HB3.out⟩
set_option maxHeartbeats 8000000 in
set_option maxRecDepth 100000 in
theorem more_true (A : Option Addr) (c : Nat) (l : List Chg) (uid gid : Int) (path : ByteArray) (follow : Bool) (w : World) (hC : Kd.C k59 w A l.length l) (hc : l.length ≤ c) (hf : fewB l 30 = true) (hs : path.size ≤ 500) (h0 : path.size ≠ 0) (h7 : ∀ x ∈ l, x.f7 ≤ 9223372036854775807) :
  Calls Tryd.prog 5 #[.agg #[.slice A l.length c, .int .i64 uid, .int .i64 gid, .string path, .bool follow]] w fun e w' => e = .returned (.bool true) ∧ Below w.heap.size w w' := by
 have cF := fun W (hb : Below w.heap.size w W) => asked_few A c l uid gid path follow 30 W (Kd.C_below hC hb) hc
 rw [hf, decide_eq_true (show (path.size : Int) ≤ 5000 by omega)] at cF
 have HF := Aside0.mk cF
 have cM := fun W (hb : Below w.heap.size w W) => made_fs A l c W (Kd.C_below hC hb) hc 30 (by decide) hf h7
 have hfine := run_fine l (n := 30) (by decide) hf h7
 obtain ⟨F, hFe⟩ : ∃ F, F = Fs.run l := ⟨_, rfl⟩
 rw [← hFe] at hfine
 simp only [← hFe] at cM
 have HM := Aside0.mk cM
 have HK := Aside0.mk hfine
 clear cF cM hC hf h7 hFe hfine
 have HSZ := Aside0.mk hs
 have d1 : decide ((500 : Int) < (path.size : Int)) = false := decide_eq_false (by omega)
 have d2 : ((path.size : Int) == 0) = false := by rw [beq_eq_false_iff_ne]; omega
 obtain ⟨b, hb⟩ : ∃ b, b = w.heap.size := ⟨_, rfl⟩
 obtain ⟨W0, hW0⟩ : ∃ W0, W0 = w.alloc (.cells #[.slice A l.length c, .int .i64 uid, .int .i64 gid, .string path, .bool follow] TAsk) := ⟨_, rfl⟩
 have HB0 : Aside0 (Below w.heap.size w W0) := ⟨by rw [hW0]; exact below_all _⟩
 have HA0 : Aside0 (W0.heap[b]? = some (.cells #[.slice A l.length c, .int .i64 uid, .int .i64 gid, .string path, .bool follow] TAsk (0, 0))) := ⟨by rw [hW0, hb]; exact heap_alloc_new w _⟩
 go_enter Tryd.func5, Tryd.ntmps5
 go_wp2_with fail
 rw [← hW0, ← hb]
 clear hW0 hb hs
 refine (awake_calls W0).mono ?_
 rintro e w1 ⟨rfl, h1⟩
 have HB1 := Aside0.mk (below_step HB0.out h1)
 have HA1 := Aside0.mk (blk_on HA0.out h1)
 clear h1 HB0 HA0
 obtain ⟨c0, c1, c2, c3, c4⟩ := ask_cells HA1.out
 go_wp2_with fail
 refine (HF.out w1 HB1.out).mono ?_
 rintro e w2 ⟨rfl, h2⟩
 have HB2 := Aside0.mk (below_step HB1.out h2)
 have HA2 := Aside0.mk (blk_on HA1.out h2)
 clear h2 HB1 HA1 c0 c1 c2 c3 c4
 obtain ⟨c0, c1, c2, c3, c4⟩ := ask_cells HA2.out
 go_wp2_with fail
 refine (HM.out w2 HB2.out).mono ?_
 rintro e w3 ⟨g, S0, m0, d0, S1, m1, d1, S2, m2, d2, S3, m3, d3, S4, m4, d4, S5, m5, d5, rfl, hg, hF3, h3⟩
 have HB3 := Aside0.mk (below_step HB2.out h3)
 have HA3 := Aside0.mk (blk_on HA2.out h3)
 have HF3 := Aside0.mk hF3
 clear h3 HB2 HA2 c0 c1 c2 c3 c4 hF3 hg
 obtain ⟨c0, c1, c2, c3, c4⟩ := ask_cells HA3.out
 go_upto_region 4 with fail
 obtain ⟨w4, hw4⟩ : ∃ w4, w4 = w3.alloc (.cells #[.slice S0 m0 d0, .slice S1 m1 d1, .slice S2 m2 d2, .slice S3 m3 d3, .slice S4 m4 d4, .slice S5 m5 d5] 40) := ⟨_, rfl⟩
 rw [← hw4]
 have h4 : Below w3.heap.size w3 w4 := by rw [hw4]; exact below_all _
 have HB4 := Aside0.mk (below_step HB3.out h4)
 have HA4 := Aside0.mk (blk_on HA3.out h4)
 have HF4 := Aside0.mk (HF3.out.below h4)
 clear h4 hw4 HB3 HA3 HF3 c0 c1 c2 c3 c4
 obtain ⟨c0, c1, c2, c3, c4⟩ := ask_cells HA4.out
 clear c0 c1 c2 c3 c4
 go_upto_region 5 with fail
 go_wp2
 go_loopw [5, 6, 7] (fun v5 v6 v7 wr => ∃ (i : Nat) (s t : ByteArray), v5 = .string s ∧ v6 = .string t ∧ v7 = .int .i64 i ∧ i ≤ path.size ∧ wr = w4 ∧ Aside0 (s.size ≤ 2 * i ∧ t.size ≤ 3 * i) ∧ Aside0 (Ls s ++ dbl ((Ls path).drop i) = dbl (Ls path)) ∧ Aside0 (Ls t ++ dts ((Ls path).drop i) = dts (Ls path))) (fun _ _ v7 _ => path.size - (intOf v7).toNat)
 case atStart => exact ⟨0, ⟨#[]⟩, ⟨#[]⟩, rfl, rfl, rfl, Nat.zero_le _, rfl, ⟨⟨Nat.le_refl _, Nat.le_refl _⟩⟩, ⟨by rw [List.drop_zero]; rfl⟩, ⟨by rw [List.drop_zero]; rfl⟩⟩
 case round =>
  obtain ⟨i, s, t, rfl, rfl, rfl, hi, rfl, HZ, HS, HT⟩ := hrel
  obtain ⟨c0, c1, c2, c3, c4⟩ := ask_cells HA4.out
  by_cases hlt : i < path.size
  ·have n1 : (i : Int) < (path.size : Int) := by omega
   have hw : wrap64 ((i : Int) + 1) = (i : Int) + 1 := by have := HSZ.out; unfold wrap64; omega
   have hwl : wrap64 ((path.size : Int) - 1) = (path.size : Int) - 1 := by have := HSZ.out; unfold wrap64; omega
   have m1 : (i : Int) + 1 ≤ (path.size : Int) := by omega
   have m2 : (0 : Int) ≤ (i : Int) := by omega
   have m3 : (i : Int) ≤ (i : Int) + 1 := by omega
   have n2 : ¬ 9223372036854775807 < s.size + 1 := by have := HZ.out; have := HSZ.out; omega
   have HD := Aside0.mk (drop_at path i hlt)
   have HM1 : Aside0 ((intOf (.int .i64 (wrap64 ((i : Int) + 1)))).toNat = i + 1) := ⟨by rw [hw]; show ((i : Int) + 1).toNat = i + 1; omega⟩
   have HM2 : Aside0 ((intOf (.int .i64 (i : Int))).toNat = i) := ⟨rfl⟩
   have HM3 : Aside0 (path.size - (i + 1) < path.size - i) := ⟨by omega⟩
   have HX := Aside0.mk (one_at path i hlt)
   go_upto_region 8 with fail
   go_upto_region 9 with fail
   obtain ⟨s1, hs1⟩ : ∃ s1, s1 = s ++ path.extract i (i + 1) := ⟨_, rfl⟩
   rw [← hs1]
   have HS1 := Aside0.mk hs1
   clear hs1
   have n3 : ¬ 9223372036854775807 < t.size + 1 := by have := HZ.out; have := HSZ.out; omega
   go_upto_region 10 with fail
   obtain ⟨t1, ht1⟩ : ∃ t1, t1 = t ++ path.extract i (i + 1) := ⟨_, rfl⟩
   rw [← ht1]
   have HT1 := Aside0.mk ht1
   clear ht1
   have z1 : s1.size = s.size + 1 := by rw [HS1.out, ByteArray.size_append, one_size path i hlt]
   have z2 : t1.size = t.size + 1 := by rw [HT1.out, ByteArray.size_append, one_size path i hlt]
   have n4 : ¬ 9223372036854775807 < s1.size + 1 := by have := HZ.out; have := HSZ.out; omega
   have n5 : ¬ 9223372036854775807 < t1.size + 2 := by have := HZ.out; have := HSZ.out; omega
   have HZ1 : Aside0 (s1.size ≤ 2 * i + 1 ∧ t1.size ≤ 3 * i + 1) := ⟨by have := HZ.out; omega⟩
   have L1 : Aside0 (Ls s1 = Ls s ++ [path[i]]) := ⟨by rw [HS1.out, Ls_app, HX.out]⟩
   have L2 : Aside0 (Ls t1 = Ls t ++ [path[i]]) := ⟨by rw [HT1.out, Ls_app, HX.out]⟩
   clear z1 z2 n2 n3
   cases h47 : ((path[i].toNat : Int) == 47) with
   | true =>
    have hc : path[i] = 47 := by
     apply UInt8.toNat_inj.1
     have := beq_iff_eq.1 h47
     have : (47 : UInt8).toNat = 47 := rfl
     omega
    have HC := Aside0.mk hc
    clear hc
    by_cases hl : (i : Int) < (path.size : Int) - 1
    ·go_wp2_with fail
     go_roundw
     case rel =>
      refine ⟨i + 1, _, _, rfl, rfl, by go_num, by omega, trivial, ⟨?_⟩, ⟨?_⟩, ⟨?_⟩⟩
      ·rw [ByteArray.size_append, ByteArray.size_append]
       have := HZ1.out
       exact ⟨by show s1.size + 1 ≤ _; omega, by show t1.size + 2 ≤ _; omega⟩
      ·have hE := dbl_on HS.out HD.out
       rw [HC.out, if_pos rfl] at hE
       rw [Ls_app, L1.out, HC.out, List.append_assoc (Ls s)]
       exact hE
      ·have hE := dts_on HT.out HD.out
       rw [HC.out, if_pos ⟨rfl, fun e => by have := congrArg List.length e; rw [List.length_drop, Ls_len] at this; simp at this; omega⟩] at hE
       rw [Ls_app, L2.out, HC.out, List.append_assoc (Ls t)]
       exact hE
     case measure => rw [HM1.out, HM2.out]; have := HM3.out; exact this
    ·go_wp2_with fail
     go_roundw
     case rel =>
      refine ⟨i + 1, _, _, rfl, rfl, by go_num, by omega, trivial, ⟨?_⟩, ⟨?_⟩, ⟨?_⟩⟩
      ·rw [ByteArray.size_append]
       have := HZ1.out
       exact ⟨by show s1.size + 1 ≤ _; omega, by omega⟩
      ·have hE := dbl_on HS.out HD.out
       rw [HC.out, if_pos rfl] at hE
       rw [Ls_app, L1.out, HC.out, List.append_assoc (Ls s)]
       exact hE
      ·have hE := dts_on HT.out HD.out
       rw [if_neg (fun h => h.2 (List.drop_eq_nil_of_le (by rw [Ls_len]; omega)))] at hE
       rw [L2.out]
       exact hE
     case measure => rw [HM1.out, HM2.out]; have := HM3.out; exact this
   | false =>
    have hc : path[i] ≠ 47 := by
     intro e
     rw [e] at h47
     exact absurd h47 (by decide)
    have HC := Aside0.mk hc
    clear hc
    go_wp2_with fail
    go_roundw
    case rel =>
     refine ⟨i + 1, _, _, rfl, rfl, by go_num, by omega, trivial, ⟨?_⟩, ⟨?_⟩, ⟨?_⟩⟩
     ·have := HZ1.out
      exact ⟨by omega, by omega⟩
     ·have hE := dbl_on HS.out HD.out
      rw [if_neg HC.out] at hE
      rw [L1.out]
      exact hE
     ·have hE := dts_on HT.out HD.out
      rw [if_neg (fun h => HC.out h.1)] at hE
      rw [L2.out]
      exact hE
    case measure => rw [HM1.out, HM2.out]; have := HM3.out; exact this
  ·obtain rfl : i = path.size := by omega
   have HS' : Aside0 (Ls s = dbl (Ls path)) := ⟨by have := HS.out; rw [← Ls_len, List.drop_length] at this; simpa [dbl] using this⟩
   have HT' : Aside0 (Ls t = dts (Ls path)) := ⟨by have := HT.out; rw [← Ls_len, List.drop_length] at this; simpa [dts] using this⟩
   clear HS HT HZ
   go_wp2_with fail
   refine (walk_calls uid gid path follow wr HF4.out HK.out.text HK.out.ents).mono ?_
   rintro e w5 ⟨r1, rfl, hr, h5⟩
   obtain ⟨x1, y1, nn1, q1, e1, rfl⟩ := walked_form hr
   have HR1 := Aside0.mk hr
   have HB5 := Aside0.mk (below_step HB4.out h5)
   have HA5 := Aside0.mk (blk_on HA4.out h5)
   have HF5 := Aside0.mk (HF4.out.below h5)
   clear hr h5 HB4 HA4 HF4  c0 c1 c2 c3 c4
   obtain ⟨c0, c1, c2, c3, c4⟩ := ask_cells HA5.out
   go_upto_region 15 with fail
   obtain ⟨w6, hw6⟩ : ∃ w6, w6 = w5.alloc (.cells #[.int .i64 x1, .int .i64 y1, .string nn1, .int .i64 q1] TPl2) := ⟨_, rfl⟩
   obtain ⟨b1, hb1⟩ : ∃ b, b = w5.heap.size := ⟨_, rfl⟩
   rw [← hw6, ← hb1]
   have HP1_6 : Aside0 (w6.heap[b1]? = some (.cells #[.int .i64 x1, .int .i64 y1, .string nn1, .int .i64 q1] TPl2 (0, 0))) := ⟨by rw [hw6, hb1]; exact heap_alloc_new w5 _⟩
   have h6 : Below w5.heap.size w5 w6 := by rw [hw6]; exact below_all _
   have HB6 := Aside0.mk (below_step HB5.out h6)
   have HA6 := Aside0.mk (blk_on HA5.out h6)
   have HF6 := Aside0.mk (HF5.out.below h6)
   clear h6 hw6 hb1 HB5 HA5 HF5  c0 c1 c2 c3 c4
   obtain ⟨c0, c1, c2, c3, c4⟩ := ask_cells HA6.out
   go_wp2_with fail
   refine (walk_calls uid gid s follow w6 HF6.out HK.out.text HK.out.ents).mono ?_
   rintro e w7 ⟨r2, rfl, hr, h7⟩
   obtain ⟨x2, y2, nn2, q2, e2, rfl⟩ := walked_form hr
   have HR2 := Aside0.mk hr
   have HB7 := Aside0.mk (below_step HB6.out h7)
   have HA7 := Aside0.mk (blk_on HA6.out h7)
   have HF7 := Aside0.mk (HF6.out.below h7)
   have HP1_7 := Aside0.mk (blk_on HP1_6.out h7)
   clear hr h7 HB6 HA6 HF6 HP1_6 c0 c1 c2 c3 c4
   obtain ⟨c0, c1, c2, c3, c4⟩ := ask_cells HA7.out
   go_upto_region 16 with fail
   obtain ⟨w8, hw8⟩ : ∃ w8, w8 = w7.alloc (.cells #[.int .i64 x2, .int .i64 y2, .string nn2, .int .i64 q2] TPl2) := ⟨_, rfl⟩
   obtain ⟨b2, hb2⟩ : ∃ b, b = w7.heap.size := ⟨_, rfl⟩
   rw [← hw8, ← hb2]
   have HP2_8 : Aside0 (w8.heap[b2]? = some (.cells #[.int .i64 x2, .int .i64 y2, .string nn2, .int .i64 q2] TPl2 (0, 0))) := ⟨by rw [hw8, hb2]; exact heap_alloc_new w7 _⟩
   have h8 : Below w7.heap.size w7 w8 := by rw [hw8]; exact below_all _
   have HB8 := Aside0.mk (below_step HB7.out h8)
   have HA8 := Aside0.mk (blk_on HA7.out h8)
   have HF8 := Aside0.mk (HF7.out.below h8)
   have HP1_8 := Aside0.mk (blk_on HP1_7.out h8)
   clear h8 hw8 hb2 HB7 HA7 HF7 HP1_7 c0 c1 c2 c3 c4
   obtain ⟨c0, c1, c2, c3, c4⟩ := ask_cells HA8.out
   go_wp2_with fail
   refine (walk_calls uid gid t follow w8 HF8.out HK.out.text HK.out.ents).mono ?_
   rintro e w9 ⟨r3, rfl, hr, h9⟩
   obtain ⟨x3, y3, nn3, q3, e3, rfl⟩ := walked_form hr
   have HR3 := Aside0.mk hr
   have HB9 := Aside0.mk (below_step HB8.out h9)
   have HA9 := Aside0.mk (blk_on HA8.out h9)
   have HF9 := Aside0.mk (HF8.out.below h9)
   have HP1_9 := Aside0.mk (blk_on HP1_8.out h9)
   have HP2_9 := Aside0.mk (blk_on HP2_8.out h9)
   clear hr h9 HB8 HA8 HF8 HP1_8 HP2_8 c0 c1 c2 c3 c4
   obtain ⟨c0, c1, c2, c3, c4⟩ := ask_cells HA9.out
   go_upto_region 17 with fail
   obtain ⟨w10, hw10⟩ : ∃ w10, w10 = w9.alloc (.cells #[.int .i64 x3, .int .i64 y3, .string nn3, .int .i64 q3] TPl2) := ⟨_, rfl⟩
   obtain ⟨b3, hb3⟩ : ∃ b, b = w9.heap.size := ⟨_, rfl⟩
   rw [← hw10, ← hb3]
   have HP3_10 : Aside0 (w10.heap[b3]? = some (.cells #[.int .i64 x3, .int .i64 y3, .string nn3, .int .i64 q3] TPl2 (0, 0))) := ⟨by rw [hw10, hb3]; exact heap_alloc_new w9 _⟩
   have h10 : Below w9.heap.size w9 w10 := by rw [hw10]; exact below_all _
   have HB10 := Aside0.mk (below_step HB9.out h10)
   have HA10 := Aside0.mk (blk_on HA9.out h10)
   have HF10 := Aside0.mk (HF9.out.below h10)
   have HP1_10 := Aside0.mk (blk_on HP1_9.out h10)
   have HP2_10 := Aside0.mk (blk_on HP2_9.out h10)
   clear h10 hw10 hb3 HB9 HA9 HF9 HP1_9 HP2_9 c0 c1 c2 c3 c4
   obtain ⟨c0, c1, c2, c3, c4⟩ := ask_cells HA10.out
   have hE := walked_dbl HS'.out (by have := HSZ.out; omega) HR1.out HR2.out
   have hEq := Prod.mk.inj hE
   have hx : x1 = x2 := by
    have := congrArg (fun a : Array Value => a[0]?) hEq.1
    simpa using this
   have hy : y1 = y2 := by
    have := congrArg (fun a : Array Value => a[1]?) hEq.1
    simpa using this
   have hn : nn1 = nn2 := by
    have := congrArg (fun a : Array Value => a[2]?) hEq.1
    simpa using this
   have hq : q1 = q2 := by
    have := congrArg (fun a : Array Value => a[3]?) hEq.1
    simpa using this
   have he := hEq.2
   subst hx hy hn hq he
   clear hE hEq
   obtain ⟨p10, p11, p12, p13⟩ := place_cells HP1_10.out
   obtain ⟨p20, p21, p22, p23⟩ := place_cells HP2_10.out
   obtain ⟨p30, p31, p32, p33⟩ := place_cells HP3_10.out
   have q := fun (d : Nat) (W : World) => eqPl d W x1 y1 nn1 q1
   by_cases hu : uid = 0
   ·subst hu
    have hD := walked_dots HK.out.fixed (by omega) HT'.out (by have := HSZ.out; omega) HR1.out HR3.out
    obtain ⟨he, _, _, x, d, n, c', d', n', c'', k1, k2⟩ := hD
    have he' : e1 = e3 := he
    have hx : x1 = x3 := by
     have h1 := congrArg (fun a : Array Value => a[0]?) k1
     have h2 := congrArg (fun a : Array Value => a[0]?) k2
     have h1' : x1 = x := by simpa using h1
     have h2' : x3 = x := by simpa using h2
     rw [h1', h2']
    subst he' hx
    clear he k1 k2
    go_wp2
    go_ret
    exact ⟨rfl, HB10.out⟩
   ·have b1 : (uid != 0) = true := by rw [bne_iff_ne]; exact hu
    clear hu
    go_wp2
    go_ret
    exact ⟨rfl, HB10.out⟩
end Go.Proofs.YtcbjkfhflmlniaaDoor.QVfs
end
section
namespace Go.Proofs.YtcbjkfhflmlniaaDoor.QVfs
open Go.RowKit Go.Proofs.YtcbjkfhflmlniaaDoorW.PrintWords Go.Proofs.YtcbjkfhflmlniaaDoorW.PrintLast Go.Proofs.YtcbjkfhflmlniaaDoorW.PrintMore
set_option linter.unusedVariables false
def domesdaylaw08_PathMore.f (l : List S59) : Option Bool := if (l.all fun x => (Lit.int .i64 x.f7).wf) = true then some true else none
theorem domesdaylaw08_PathMore.calls (A : Option Addr) (c : Nat) (l : List S59) (uid gid : Int) (path : ByteArray) (follow : Bool) (r : Bool) (w : World) (hC : Kd.C k59 w A l.length l) (hc : l.length ≤ c) (h : domesdaylaw08_PathMore.f l = some r) :
  Calls Tryd.prog 5 #[.agg #[.slice A l.length c, .int .i64 uid, .int .i64 gid, .string path, .bool follow]] w fun e w' => e = .returned (.bool r) ∧ Below w.heap.size w w' := by
 unfold domesdaylaw08_PathMore.f at h
 split at h
 ·rename_i hw
  obtain rfl := Option.some.inj h
  have h7 : ∀ x ∈ l, x.f7 ≤ 9223372036854775807 := fun x hx => by
   have := List.all_eq_true.1 hw x hx
   simp [Lit.wf, IntKind.min, IntKind.max, IntKind.signed, IntKind.bits] at this
   omega
  by_cases hf : fewB l 30 = true ∧ path.size ≤ 500 ∧ path.size ≠ 0
  ·exact more_true A c l uid gid path follow w hC hc hf.1 hf.2.1 hf.2.2 h7
  ·exact more_not A c l uid gid path follow w hC hc hf
 ·cases h
end Go.Proofs.YtcbjkfhflmlniaaDoor.QVfs
end
section
namespace Go.Proofs.YtcbjkfhflmlniaaDoor.Pure
open Go.RowKit Go.Proofs.YtcbjkfhflmlniaaDoor.QVfs
set_option linter.unusedVariables false
theorem PathMore (l : List S59) (uid gid : Int) (path : ByteArray) (follow : Bool) {Q : Prop} (hl : (∀ y ∈ l, ((Lit.int .i64 y.f0).wf = true) ∧ ((Lit.int .i64 y.f1).wf = true) ∧ ((Lit.int .i64 y.f2).wf = true) ∧ (y.f3.size ≤ maxLen) ∧ (y.f4.size ≤ maxLen) ∧ ((Lit.int .i64 y.f5).wf = true) ∧ ((Lit.int .i64 y.f6).wf = true) ∧ ((Lit.int .i64 y.f7).wf = true)) ∧ Q) : domesdaylaw08_PathMore.f l = some true := by
 unfold domesdaylaw08_PathMore.f
 rw [if_pos (List.all_eq_true.2 fun y hy => (hl.1 y hy).2.2.2.2.2.2.2)]
end Go.Proofs.YtcbjkfhflmlniaaDoor.Pure
end
section
namespace Go.Proofs.YtcbjkfhflmlniaaDoor.pathMore
open Go.ChangeShapes Go.WideShapes Go.ChangeAt Go.RowKit Go.Proofs.YtcbjkfhflmlniaaDoorW.VRow Go.Proofs.YtcbjkfhflmlniaaDoorW.VRow3 Go.Proofs.YtcbjkfhflmlniaaDoorW.PrintWords
open Go.ChangeMaps (open_string shut_string)
set_option linter.unusedVariables false
theorem own : ownKnob Tryd.prog.godebug = none := by kernel_rfl
theorem laidOut : laidOutB Tryd.prog = true := by kernel_rfl
theorem tells3 : TellsQ Tryd.prog 3 (Kd.int .i64) (fun x : Int => (Lit.int .i64 x).wf = true) := TellsQ.int Tryd.underlying3
theorem tells9 : TellsQ Tryd.prog 9 Kd.string (fun x : ByteArray => x.size ≤ maxLen) := TellsQ.str Tryd.underlying9
theorem tells2 : TellsQ Tryd.prog 2 (Kd.int .i64) (fun x : Int => (Lit.int .i64 x).wf = true) := TellsQ.int Tryd.underlying2
theorem tells59 : TellsQ Tryd.prog 59 QVfs.k59 (fun x : QVfs.S59 => ((Lit.int .i64 x.f0).wf = true) ∧ ((Lit.int .i64 x.f1).wf = true) ∧ ((Lit.int .i64 x.f2).wf = true) ∧ (x.f3.size ≤ maxLen) ∧ (x.f4.size ≤ maxLen) ∧ ((Lit.int .i64 x.f5).wf = true) ∧ ((Lit.int .i64 x.f6).wf = true) ∧ ((Lit.int .i64 x.f7).wf = true)) := TellsQ.iso (TellsQ.structA Tryd.underlying59 (by kernel_rfl) (TellsFQ.cons rfl (by kernel_rfl) tells3 (TellsFQ.cons rfl (by kernel_rfl) tells3 (TellsFQ.cons rfl (by kernel_rfl) tells3 (TellsFQ.cons rfl (by kernel_rfl) tells9 (TellsFQ.cons rfl (by kernel_rfl) tells9 (TellsFQ.cons rfl (by kernel_rfl) tells3 (TellsFQ.cons rfl (by kernel_rfl) tells3 (TellsFQ.one rfl (by kernel_rfl) tells2))))))))) (fun x : QVfs.S59 => (x.f0, x.f1, x.f2, x.f3, x.f4, x.f5, x.f6, x.f7)) (fun p => ⟨p.1, p.2.1, p.2.2.1, p.2.2.2.1, p.2.2.2.2.1, p.2.2.2.2.2.1, p.2.2.2.2.2.2.1, p.2.2.2.2.2.2.2⟩) (fun _ => rfl)
theorem tells28 : TellsQ Tryd.prog 28 (Kd.slice 59 QVfs.k59) (fun x : List _ => ∀ y59 ∈ x, ((Lit.int .i64 y59.f0).wf = true) ∧ ((Lit.int .i64 y59.f1).wf = true) ∧ ((Lit.int .i64 y59.f2).wf = true) ∧ (y59.f3.size ≤ maxLen) ∧ (y59.f4.size ≤ maxLen) ∧ ((Lit.int .i64 y59.f5).wf = true) ∧ ((Lit.int .i64 y59.f6).wf = true) ∧ ((Lit.int .i64 y59.f7).wf = true)) := TellsQ.slice Tryd.underlying28 tells59 (by kernel_rfl)
theorem tells30 : TellsQ Tryd.prog 30 (Kd.pair (Kd.int .i64) (Kd.int .i64)) (fun x => ((Lit.int .i64 x.1).wf = true) ∧ ((Lit.int .i64 x.2).wf = true)) := by
 have h := TellsQ.structA Tryd.underlying30 (by kernel_rfl) (TellsFQ.cons rfl (by kernel_rfl) tells3 (TellsFQ.one rfl (by kernel_rfl) tells3))
 exact h
theorem tells4 : TellsQ Tryd.prog 4 Kd.bool (fun x : Bool => True) := TellsQ.bool Tryd.underlying4
theorem tells32 : TellsQ Tryd.prog 32 (Kd.pair (Kd.slice 59 QVfs.k59) (Kd.pair (Kd.pair (Kd.int .i64) (Kd.int .i64)) (Kd.pair Kd.string Kd.bool))) (fun x => (∀ y59 ∈ x.1, ((Lit.int .i64 y59.f0).wf = true) ∧ ((Lit.int .i64 y59.f1).wf = true) ∧ ((Lit.int .i64 y59.f2).wf = true) ∧ (y59.f3.size ≤ maxLen) ∧ (y59.f4.size ≤ maxLen) ∧ ((Lit.int .i64 y59.f5).wf = true) ∧ ((Lit.int .i64 y59.f6).wf = true) ∧ ((Lit.int .i64 y59.f7).wf = true)) ∧ (((Lit.int .i64 x.2.1.1).wf = true) ∧ ((Lit.int .i64 x.2.1.2).wf = true)) ∧ (x.2.2.1.size ≤ maxLen) ∧ (True)) := by
 have h := TellsQ.structA Tryd.underlying32 (by kernel_rfl) (TellsFQ.cons rfl (by kernel_rfl) tells28 (TellsFQ.cons rfl (by kernel_rfl) tells30 (TellsFQ.cons rfl (by kernel_rfl) tells9 (TellsFQ.one rfl (by kernel_rfl) tells4))))
 exact h
set_option maxRecDepth 100000 in
theorem lifted (os : Os) (started : os.Started) (H : Type) (enc : TypeId × Value → H) :
  ReturnsInHanded {} Tryd.checked os 5 .any (fun w args => (Rows.pathMoreSpec.pre enc Tryd.prog Tryd.f5 Rows.pathMoreRow.domain false w args ∧ laidMetH Tryd.prog Rows.pathMoreRow.laid w) ∧ sizedMet enc Tryd.prog Tryd.f5 (OpenSpec.ofChange Rows.pathMoreSpec) false w args)
   (Rows.pathMoreSpec.post enc Tryd.prog Tryd.f5 false true false false) := by
 refine returnsInHanded_of_change_and (C := Tryd.checked) (X := fun w _ => laidMetH Tryd.prog Rows.pathMoreRow.laid w) (fun _ _ _ hh h => h.of_heap hh) own started (by kernel_rfl) Tryd.func5
  (ChangeSpec.witness_shaped (enc := enc) (C := Tryd.checked) (os := os) (X := fun w _ => laidMetH Tryd.prog Rows.pathMoreRow.laid w) false (World.laidAll Tryd.prog os Rows.pathMoreRow.laid) #[.agg #[.slice none 0 0, .int .i64 0, .int .i64 0, .string ByteArray.empty, .bool false]] 8 (World.laidAll_os _ _ _)
   (World.shaped_of_ZipB (by kernel_rfl) (by kernel_rfl)) (by kernel_rfl) (by kernel_rfl) (by kernel_rfl)
   (by rw [MakeChecks.laidMetH_plain _ _ _ (by kernel_rfl)]; exact laidMet_laidAll _ (by kernel_rfl) (by kernel_rfl))) ?_
 intro W base args ds gs before hval0 hW hcnd hsz0 hL _
 have hsz : (DataW.weightsEach Tryd.prog (Tryd.f5.params.toList ++ Rows.pathMoreSpec.plain.varTypes Tryd.prog) (ds ++ gs)).all (· ≤ reachBytes) = true := hsz0
 have hval : ∀ (j : Nat) t v, Tryd.f5.params[j]? = some t → args[j]? = some v → Value.okWide Tryd.prog W .any base t v := hval0
 have hW' := hW
 obtain ⟨p, q, hA0, hV, rfl, hfz, hnd⟩ := hW
 have hA : DataW.TrodAll enc Tryd.prog W 0 (fun _ => true) true Tryd.f5.params.toList args.toList ds p := hA0
 rw [Tryd.params5] at hA hval hsz
 obtain ⟨v0, vs0, d0, ds0, p0, q0, hargs, rfl, rfl, h0, r0⟩ := trodAll_cons hA
 obtain ⟨rfl, rfl, rfl⟩ := trodAll_nil r0
 obtain rfl : args = #[v0] := by cases args; simp_all
 obtain ⟨rfl, rfl⟩ := trodVars_none hV
 have k0 := h0
 have lt0 : ∀ x ∈ p0, x.block < W.heap.size := by obtain ⟨m, hm⟩ := k0; exact DataW.trod_lt m _ _ _ hm
 obtain ⟨⟨l0_0, ⟨x0_1, x0_2⟩, x0_3, x0_4⟩, cs0, rfl, K0, w0⟩ := open_toldS tells32 (by obtain ⟨cs, hc, _⟩ := okWide_struct Tryd.underlying32 (hval 0 32 v0 rfl rfl); exact ⟨cs, hc⟩) h0
 obtain ⟨_, _, rfl, ⟨A0_0, c0_0, rfl, le0_0, C0_0⟩, ⟨_, _, rfl, ⟨_, _, rfl, rfl, rfl⟩, ⟨_, _, rfl, rfl, rfl⟩⟩⟩ := K0
 clear hA0 hval0 hsz0 hsz
 have hk := Pure.PathMore l0_0 x0_1 x0_2 x0_3 x0_4 w0
 refine (QVfs.domesdaylaw08_PathMore.calls A0_0 c0_0 l0_0 x0_1 x0_2 x0_3 x0_4 true W C0_0 le0_0 hk).mono fun e W' ⟨he, bel0⟩ => ?_
 have bel : Below W.heap.size W W' := bel0
 subst he
 exact ⟨_, rfl, _, _, _, [], _, [], hW', trodAll_mk1 (shut_bool Tryd.underlying4 _), (trodAll_cons_mk (Below.trod laidOut (by kernel_rfl) (of_decide_eq_true (by kernel_rfl)) k0 bel lt0) trodAll_mk0), rfl, bel.frame _, fun h => by cases h⟩
theorem over : Rows.pathMoreRow.holds Tryd.pinned (OpenSpec.ofChange Rows.pathMoreSpec) :=
 OpenClaim.holds_of_wide 5 Tryd.f5 rfl rfl rfl rfl rfl rfl rfl ⟨rfl, rfl, rfl, rfl, rfl⟩ rfl rfl rfl rfl rfl (by kernel_rfl) Tryd.func5 (by kernel_rfl)
  (of_decide_eq_true (by kernel_rfl)) (by unfold Func.isWrapper; first | (rw [if_pos (by decide +kernel)]; kernel_rfl) | (rw [if_neg (by decide +kernel)]; exact ⟨rfl, rfl⟩))
  (fun os started H enc _ => lifted os started H enc)
theorem proved : Rows.PathMoreCardSaid :=
 Claim7.holds_tied_plain_at .later [] [.data, .pinned] true (true, "65ce2ad83cbc6b42c5592c41a5fb6fa4b1f91b91c8fbfd966f2c3b1575f5c5ea") false over (fun _ h => by cases h) (by kernel_rfl) (fun _ h => by cases h) pathMore_row_tie rfl ⟨rfl, rfl⟩ (by kernel_rfl) rfl
  (fun f fn hf hfn => by
   obtain rfl : f = 5 := Option.some.inj ((show Tryd.prog.funcNamed "domesday/domesdaylaw08.PathMore" = some 5 by kernel_rfl).symm.trans hf) |>.symm
   obtain rfl : fn = Tryd.f5 := (Option.some.inj (Tryd.func5.symm.trans hfn)).symm
   exact ⟨by kernel_rfl, fun j t ht => by
    rw [Tryd.params5] at ht
    have hm : t ∈ [32] := by simpa using Array.mem_of_getElem? ht
    have hall : ([32].all fun u => !Tryd.prog.wantsStandIn u) = true := by kernel_rfl
    exact (show Tryd.prog.wantsStandIn t = false by simpa using List.all_eq_true.1 hall t hm)⟩)
  (by kernel_rfl)
#print axioms proved
end Go.Proofs.YtcbjkfhflmlniaaDoor.pathMore
namespace Go.Proofs.YtcbjkfhflmlniaaDoor
theorem pathMore_holds : Rows.PathMoreCardSaid := pathMore.proved
end Go.Proofs.YtcbjkfhflmlniaaDoor
end
