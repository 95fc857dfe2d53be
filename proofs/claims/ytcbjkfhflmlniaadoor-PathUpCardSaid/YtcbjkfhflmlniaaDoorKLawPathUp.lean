import Derived.Test.YtcbjkfhflmlniaaDoorKPuM
import Derived.Test.YtcbjkfhflmlniaaDoorKXPa7
import Derived.Test.YtcbjkfhflmlniaaDoorKXExt
import Derived.Test.YtcbjkfhflmlniaaDoorRows
import Derived.Test.YtcbjkfhflmlniaaDoorKVRow
import Derived.WalkKit
import Derived.ProofKit
import Derived.OpenShut
import Derived.ShutString
import Derived.ChangeOld
import Derived.Below
import Derived.SizedLaws
import Derived.Test.YtcbjkfhflmlniaaDoorCards
import Derived.Test.YtcbjkfhflmlniaaDoorTie
import Derived.Lay
import Derived.LaidOnce
import Derived.SevenTiedAt
import Derived.LaidLaws
import Derived.Handed
-- Texts of this seat, what the claim does not reach struck out by a program.
section
namespace Go.Proofs.YtcbjkfhflmlniaaDoor.QVfs
open Go.RowKit Go.Proofs.YtcbjkfhflmlniaaDoorW.PrintWords Go.Proofs.YtcbjkfhflmlniaaDoorW.PrintLast Go.Proofs.YtcbjkfhflmlniaaDoorW.PrintMore
set_option linter.unusedVariables false
set_option linter.unusedSimpArgs false
abbrev TAsk : Nat := 32
abbrev TPl2 : Nat := 44
theorem ask_cells {A : Option Addr} {n c : Nat} {uid gid : Int} {path : ByteArray} {follow : Bool} {W : World} {b : Nat} (h : W.heap[b]? = some (.cells #[.slice A n c, .int .i64 uid, .int .i64 gid, .string path, .bool follow] TAsk (0, 0))) :
  W.cell? ⟨b, 0, none⟩ = some (.slice A n c) ∧ W.cell? ⟨b, 1, none⟩ = some (.int .i64 uid) ∧ W.cell? ⟨b, 2, none⟩ = some (.int .i64 gid) ∧ W.cell? ⟨b, 3, none⟩ = some (.string path) ∧ W.cell? ⟨b, 4, none⟩ = some (.bool follow) :=
 ⟨blk_cell h 0, blk_cell h 1, blk_cell h 2, blk_cell h 3, blk_cell h 4⟩
theorem place_cells {x y hp : Int} {n : ByteArray} {W : World} {b : Nat} (h : W.heap[b]? = some (.cells #[.int .i64 x, .int .i64 y, .string n, .int .i64 hp] TPl2 (0, 0))) :
  W.cell? ⟨b, 0, none⟩ = some (.int .i64 x) ∧ W.cell? ⟨b, 1, none⟩ = some (.int .i64 y) ∧ W.cell? ⟨b, 2, none⟩ = some (.string n) ∧ W.cell? ⟨b, 3, none⟩ = some (.int .i64 hp) :=
 ⟨blk_cell h 0, blk_cell h 1, blk_cell h 2, blk_cell h 3⟩
theorem blk_on {W W' : World} {b : Nat} {o : Obj} (h : W.heap[b]? = some o) (hb : Below W.heap.size W W') : W'.heap[b]? = some o := (hb.block _ (blk_lt h)).trans h
theorem asked_few (A : Option Addr) (c : Nat) (l : List Chg) (uid gid : Int) (path : ByteArray) (follow : Bool) (n : Int) (w : World) (hC : Kd.C k59 w A l.length l) (hc : l.length ≤ c) :
  Calls Tryd.prog 10 #[.agg #[.slice A l.length c, .int .i64 uid, .int .i64 gid, .string path, .bool follow], .int .i64 n] w fun e w' => e = .returned (.bool (fewB l n && decide ((path.size : Int) ≤ 5000))) ∧ Below w.heap.size w w' := by
 refine domesdaylaw08_Asked_Few.calls 1002 A c l uid gid path follow n _ w hC hc ?_
 unfold domesdaylaw08_Asked_Few.f
 have hf : domesdayref06_Few.f 1002 l n = some (fewB l n) := few_l l n 400 0 1002 (by rw [List.length_take]; omega) (Nat.zero_le _) (by omega)
 rw [hf, Option.bind_some]
 cases fewB l n
 ·rfl
 ·rfl
theorem walked_form {F : Fs} {u g : Int} {s : ByteArray} {f : Bool} {r : Array Value × Int} (h : F.walked u g s f r) : ∃ x y n h e, r = (#[.int .i64 x, .int .i64 y, .string n, .int .i64 h], e) := by
 rcases h with ⟨_, rfl⟩ | ⟨_, rfl⟩ | ⟨_, _, e, S, _, rfl⟩
 ·exact ⟨_, _, _, _, _, rfl⟩
 ·exact ⟨_, _, _, _, _, rfl⟩
 ·unfold Fs.answer
  split
  ·split
   ·exact ⟨_, _, _, _, _, rfl⟩
   ·exact ⟨_, _, _, _, _, rfl⟩
  ·exact ⟨_, _, _, _, _, rfl⟩
set_option maxHeartbeats 8000000 in
set_option maxRecDepth 100000 in
theorem up_not (A : Option Addr) (c : Nat) (l : List Chg) (uid gid : Int) (path : ByteArray) (follow : Bool) (w : World) (hC : Kd.C k59 w A l.length l) (hc : l.length ≤ c) (hf : ¬ (fewB l 30 = true ∧ path.size ≤ 1000)) :
  Calls Tryd.prog 4 #[.agg #[.slice A l.length c, .int .i64 uid, .int .i64 gid, .string path, .bool follow]] w fun e w' => e = .returned (.bool true) ∧ Below w.heap.size w w' := by
 have cF := fun W (hb : Below w.heap.size w W) => asked_few A c l uid gid path follow 30 W (Kd.C_below hC hb) hc
 obtain ⟨t, ht⟩ : ∃ t, t = (fewB l 30 && decide ((path.size : Int) ≤ 5000)) := ⟨_, rfl⟩
 rw [← ht] at cF
 have hq : t = false ∨ (t = true ∧ decide ((1000 : Int) < (path.size : Int)) = true) := by
  cases t with
  | false => exact .inl rfl
  | true =>
   right
   have h1 : fewB l 30 = true := by
    cases hh : fewB l 30 with
    | true => rfl
    | false => rw [hh] at ht; cases ht
   exact ⟨rfl, decide_eq_true (by have : ¬ path.size ≤ 1000 := fun h => hf ⟨h1, h⟩; omega)⟩
 have HF := Aside0.mk cF
 clear cF hC hf ht
 obtain ⟨b, hb⟩ : ∃ b, b = w.heap.size := ⟨_, rfl⟩
 obtain ⟨W0, hW0⟩ : ∃ W0, W0 = w.alloc (.cells #[.slice A l.length c, .int .i64 uid, .int .i64 gid, .string path, .bool follow] TAsk) := ⟨_, rfl⟩
 have HB0 : Aside0 (Below w.heap.size w W0) := ⟨by rw [hW0]; exact below_all _⟩
 have HA0 : Aside0 (W0.heap[b]? = some (.cells #[.slice A l.length c, .int .i64 uid, .int .i64 gid, .string path, .bool follow] TAsk (0, 0))) := ⟨by rw [hW0, hb]; exact heap_alloc_new w _⟩
 go_enter Tryd.func4, Tryd.ntmps4
 go_wp2_with fail
 rw [← hW0, ← hb]
 clear hW0 hb
 refine (awake_calls W0).mono ?_
 rintro e w1 ⟨rfl, h1⟩
 have HB1 := Aside0.mk (below_step HB0.out h1)
 have HA1 := Aside0.mk (blk_on HA0.out h1)
 clear h1 HB0 HA0
 obtain ⟨c0, c1, c2, c3, c4⟩ := ask_cells HA1.out
 go_wp2_with fail
 refine (HF.out w1 HB1.out).mono ?_
 rintro e w2 ⟨rfl, h2⟩
 have HB2 := Aside0.mk (below_step HB1.out h2)
 have HA2 := Aside0.mk (blk_on HA1.out h2)
 clear h2 HB1 HA1 c0 c1 c2 c3 c4
 obtain ⟨c0, c1, c2, c3, c4⟩ := ask_cells HA2.out
 rcases hq with rfl | ⟨rfl, d1⟩
 ·go_wp2_with fail
  refine (awake_calls w2).mono ?_
  rintro e w3 ⟨rfl, h3⟩
  have HB3 := Aside0.mk (below_step HB2.out h3)
  clear h3
  go_wp2
  go_ret
  exact ⟨rfl, HB3.out⟩
 ·go_wp2_with fail
  refine (awake_calls w2).mono ?_
  rintro e w3 ⟨rfl, h3⟩
  have HB3 := Aside0.mk (below_step HB2.out h3)
  clear h3
  go_wp2
  go_ret
  exact ⟨rfl, HB3.out⟩
set_option maxHeartbeats 8000000 in
set_option maxRecDepth 100000 in
theorem up_true (A : Option Addr) (c : Nat) (l : List Chg) (uid gid : Int) (path : ByteArray) (follow : Bool) (w : World) (hC : Kd.C k59 w A l.length l) (hc : l.length ≤ c) (hf : fewB l 30 = true) (hs : path.size ≤ 1000) (h7 : ∀ x ∈ l, x.f7 ≤ 9223372036854775807) :
  Calls Tryd.prog 4 #[.agg #[.slice A l.length c, .int .i64 uid, .int .i64 gid, .string path, .bool follow]] w fun e w' => e = .returned (.bool true) ∧ Below w.heap.size w w' := by
 have cF := fun W (hb : Below w.heap.size w W) => asked_few A c l uid gid path follow 30 W (Kd.C_below hC hb) hc
 rw [hf, decide_eq_true (show (path.size : Int) ≤ 5000 by omega)] at cF
 have HF := Aside0.mk cF
 have cM := fun W (hb : Below w.heap.size w W) => made_fs A l c W (Kd.C_below hC hb) hc 30 (by decide) hf h7
 have hfine := run_fine l (n := 30) (by decide) hf h7
 obtain ⟨F, hFe⟩ : ∃ F, F = Fs.run l := ⟨_, rfl⟩
 rw [← hFe] at hfine
 simp only [← hFe] at cM
 have HM := Aside0.mk cM
 have HK := Aside0.mk hfine
 clear cF cM hC hf h7 hFe hfine
 have HSZ := Aside0.mk hs
 have d1 : decide ((1000 : Int) < (path.size : Int)) = false := decide_eq_false (by omega)
 obtain ⟨b, hb⟩ : ∃ b, b = w.heap.size := ⟨_, rfl⟩
 obtain ⟨W0, hW0⟩ : ∃ W0, W0 = w.alloc (.cells #[.slice A l.length c, .int .i64 uid, .int .i64 gid, .string path, .bool follow] TAsk) := ⟨_, rfl⟩
 have HB0 : Aside0 (Below w.heap.size w W0) := ⟨by rw [hW0]; exact below_all _⟩
 have HA0 : Aside0 (W0.heap[b]? = some (.cells #[.slice A l.length c, .int .i64 uid, .int .i64 gid, .string path, .bool follow] TAsk (0, 0))) := ⟨by rw [hW0, hb]; exact heap_alloc_new w _⟩
 go_enter Tryd.func4, Tryd.ntmps4
 go_wp2_with fail
 rw [← hW0, ← hb]
 clear hW0 hb hs
 refine (awake_calls W0).mono ?_
 rintro e w1 ⟨rfl, h1⟩
 have HB1 := Aside0.mk (below_step HB0.out h1)
 have HA1 := Aside0.mk (blk_on HA0.out h1)
 clear h1 HB0 HA0
 obtain ⟨c0, c1, c2, c3, c4⟩ := ask_cells HA1.out
 go_wp2_with fail
 refine (HF.out w1 HB1.out).mono ?_
 rintro e w2 ⟨rfl, h2⟩
 have HB2 := Aside0.mk (below_step HB1.out h2)
 have HA2 := Aside0.mk (blk_on HA1.out h2)
 clear h2 HB1 HA1 c0 c1 c2 c3 c4
 obtain ⟨c0, c1, c2, c3, c4⟩ := ask_cells HA2.out
 go_wp2_with fail
 refine (HM.out w2 HB2.out).mono ?_
 rintro e w3 ⟨g, S0, m0, d0, S1, m1, d1, S2, m2, d2, S3, m3, d3, S4, m4, d4, S5, m5, d5, rfl, hg, hF3, h3⟩
 have HB3 := Aside0.mk (below_step HB2.out h3)
 have HA3 := Aside0.mk (blk_on HA2.out h3)
 have HF3 := Aside0.mk hF3
 clear h3 HB2 HA2 c0 c1 c2 c3 c4 hF3 hg
 obtain ⟨c0, c1, c2, c3, c4⟩ := ask_cells HA3.out
 go_upto_region 4 with fail
 obtain ⟨w4, hw4⟩ : ∃ w4, w4 = w3.alloc (.cells #[.slice S0 m0 d0, .slice S1 m1 d1, .slice S2 m2 d2, .slice S3 m3 d3, .slice S4 m4 d4, .slice S5 m5 d5] 40) := ⟨_, rfl⟩
 rw [← hw4]
 have h4 : Below w3.heap.size w3 w4 := by rw [hw4]; exact below_all _
 have HB4 := Aside0.mk (below_step HB3.out h4)
 have HA4 := Aside0.mk (blk_on HA3.out h4)
 have HF4 := Aside0.mk (HF3.out.below h4)
 clear h4 hw4 HB3 HA3 HF3 c0 c1 c2 c3 c4
 obtain ⟨c0, c1, c2, c3, c4⟩ := ask_cells HA4.out
 go_wp2_with fail
 refine (walk_calls 0 0 path true w4 HF4.out HK.out.text HK.out.ents).mono ?_
 rintro e w5 ⟨r, rfl, hr, h5⟩
 obtain ⟨x, y, n, hp, e1, rfl⟩ := walked_form hr
 have HR := Aside0.mk hr
 have HB5 := Aside0.mk (below_step HB4.out h5)
 have HA5 := Aside0.mk (blk_on HA4.out h5)
 have HF5 := Aside0.mk (HF4.out.below h5)
 clear hr h5 HB4 HA4 HF4 c0 c1 c2 c3 c4
 obtain ⟨c0, c1, c2, c3, c4⟩ := ask_cells HA5.out
 go_upto_region 5 with fail
 obtain ⟨w6, hw6⟩ : ∃ w6, w6 = w5.alloc (.cells #[.int .i64 x, .int .i64 y, .string n, .int .i64 hp] TPl2) := ⟨_, rfl⟩
 obtain ⟨b5, hb5⟩ : ∃ b, b = w5.heap.size := ⟨_, rfl⟩
 rw [← hw6, ← hb5]
 have HP6 : Aside0 (w6.heap[b5]? = some (.cells #[.int .i64 x, .int .i64 y, .string n, .int .i64 hp] TPl2 (0, 0))) := ⟨by rw [hw6, hb5]; exact heap_alloc_new w5 _⟩
 have h6 : Below w5.heap.size w5 w6 := by rw [hw6]; exact below_all _
 have HB6 := Aside0.mk (below_step HB5.out h6)
 have HA6 := Aside0.mk (blk_on HA5.out h6)
 have HF6 := Aside0.mk (HF5.out.below h6)
 clear h6 hw6 hb5 HB5 HA5 HF5 c0 c1 c2 c3 c4
 obtain ⟨c0, c1, c2, c3, c4⟩ := ask_cells HA6.out
 go_wp2_with fail
 ·exfalso; have := HSZ.out; omega
 obtain ⟨p2, hp2e⟩ : ∃ p2, p2 = path ++ ⟨#[47, 46, 46]⟩ := ⟨_, rfl⟩
 rw [← hp2e]
 have HP2 := Aside0.mk hp2e
 clear hp2e
 refine (walk_calls 0 0 p2 true w6 HF6.out HK.out.text HK.out.ents).mono ?_
 rintro e w7 ⟨q, rfl, hq, h7⟩
 obtain ⟨x2, y2, n2, hp2, e2, rfl⟩ := walked_form hq
 have HQ := Aside0.mk hq
 have HB7 := Aside0.mk (below_step HB6.out h7)
 have HA7 := Aside0.mk (blk_on HA6.out h7)
 have HF7 := Aside0.mk (HF6.out.below h7)
 have HP7 := Aside0.mk (blk_on HP6.out h7)
 clear hq h7 HB6 HA6 HF6 HP6 c0 c1 c2 c3 c4
 obtain ⟨c0, c1, c2, c3, c4⟩ := ask_cells HA7.out
 go_upto_region 6 with fail
 obtain ⟨w8, hw8⟩ : ∃ w8, w8 = w7.alloc (.cells #[.int .i64 x2, .int .i64 y2, .string n2, .int .i64 hp2] TPl2) := ⟨_, rfl⟩
 obtain ⟨b7, hb7⟩ : ∃ b, b = w7.heap.size := ⟨_, rfl⟩
 rw [← hw8, ← hb7]
 have HQ8 : Aside0 (w8.heap[b7]? = some (.cells #[.int .i64 x2, .int .i64 y2, .string n2, .int .i64 hp2] TPl2 (0, 0))) := ⟨by rw [hw8, hb7]; exact heap_alloc_new w7 _⟩
 have h8 : Below w7.heap.size w7 w8 := by rw [hw8]; exact below_all _
 have HB8 := Aside0.mk (below_step HB7.out h8)
 have HA8 := Aside0.mk (blk_on HA7.out h8)
 have HF8 := Aside0.mk (HF7.out.below h8)
 have HP8 := Aside0.mk (blk_on HP7.out h8)
 clear h8 hw8 hb7 HB7 HA7 HF7 HP7 c0 c1 c2 c3 c4
 obtain ⟨c0, c1, c2, c3, c4⟩ := ask_cells HA8.out
 by_cases hz : path.size = 0
 ·obtain rfl : path = ⟨#[]⟩ := by
   apply Ls_inj
   apply List.eq_nil_of_length_eq_zero
   rw [Ls_len]; exact hz
  go_wp2
  go_ret
  exact ⟨rfl, HB8.out⟩
 have d2 : (path.toList == ([] : List UInt8)) = false := by
  rw [beq_eq_false_iff_ne]
  intro e
  apply hz
  rw [← Ls_len]
  show path.data.toList.length = 0
  rw [← ByteArray.toList_eq, e]; rfl
 have hlaw := walked_up (by omega) HSZ.out HR.out (by rw [← HP2.out]; exact HQ.out)
 have HW := Aside0.mk hlaw
 clear hlaw
 by_cases he1 : e1 = 0
 ·obtain ⟨S, hS, hK⟩ : ∃ S : Wk, (#[.int .i64 x, .int .i64 y, .string n, .int .i64 hp] : Array Value) = placeV S ∧ _ := (HW.out.resolve_left (fun h => h.1 he1)).2
  have hx : x = S.id := by
   have := congrArg (fun a : Array Value => a[0]?) hS
   simpa [placeV] using this
  have hh : hp = S.hops := by
   have := congrArg (fun a : Array Value => a[3]?) hS
   simpa [placeV] using this
  rw [← hx, ← hh] at hK
  have HKK := Aside0.mk hK
  clear hS hx hh hK
  subst he1
  obtain ⟨p0, p1, p2', p3⟩ := place_cells HP8.out
  obtain ⟨q0, q1, q2, q3⟩ := place_cells HQ8.out
  have hN := node_calls g F x w8 HF8.out.read
  obtain ⟨nd, hnd⟩ : ∃ nd, nd = F.nodeN x := ⟨_, rfl⟩
  rw [← hnd] at hN
  unfold encN at hN
  have HND := Aside0.mk hnd
  have HN := Aside0.mk hN
  clear hN hnd
  go_wp2_with fail
  refine HN.out.mono ?_
  rintro e w9 ⟨rfl, h9⟩
  have HB9 := Aside0.mk (below_step HB8.out h9)
  have HA9 := Aside0.mk (blk_on HA8.out h9)
  have HF9 := Aside0.mk (HF8.out.below h9)
  have HP9 := Aside0.mk (blk_on HP8.out h9)
  have HQ9 := Aside0.mk (blk_on HQ8.out h9)
  clear h9 HB8 HA8 HF8 HP8 HQ8 c0 c1 c2 c3 c4 p0 p1 p2' p3 q0 q1 q2 q3 HN
  go_upto_region 9 with fail
  obtain ⟨w10, hw10⟩ : ∃ w10, w10 = w9.alloc (.cells #[.int .i64 nd.f0, .int .i64 nd.f1, .int .i64 nd.f2, .int .i64 nd.f3, .int .i64 nd.f4, .int .i64 nd.f5, .int .i64 nd.f6, .int .i64 nd.f7, .int .i64 nd.f8, .int .i64 nd.f9.f0, .int .i64 nd.f9.f1, .int .i64 nd.f9.f2, .string nd.f10] TNo) := ⟨_, rfl⟩
  obtain ⟨b9, hb9⟩ : ∃ b, b = w9.heap.size := ⟨_, rfl⟩
  rw [← hw10, ← hb9]
  have h10 : Below w9.heap.size w9 w10 := by rw [hw10]; exact below_all _
  have hbk : w10.heap[b9]? = some (.cells (encN nd).toArray TNo (0, 0)) := by rw [hw10, hb9]; exact heap_alloc_new w9 _
  have k2 : w10.cell? ⟨b9, 2, none⟩ = some (.int .i64 nd.f2) := (blk_cell hbk 2).trans rfl
  have HB10 := Aside0.mk (below_step HB9.out h10)
  have HF10 := Aside0.mk (HF9.out.below h10)
  obtain ⟨p0, p1, p2', p3⟩ := place_cells (blk_on HP9.out h10)
  obtain ⟨q0, q1, q2, q3⟩ := place_cells (blk_on HQ9.out h10)
  clear h10 hw10 hb9 hbk HB9 HA9 HF9 HP9 HQ9
  by_cases hk : nd.f2 = 2
  ·have hk2 := HKK.out
   rw [← HND.out] at hk2
   obtain ⟨_, he2, d, hq1⟩ := hk2.resolve_left (fun h => h.1 hk)
   replace he2 : e2 = 0 := he2
   have hx2 : x2 = F.overE (F.upE x) := by
    have := congrArg (fun a : Array Value => a[0]?) hq1
    simpa using this
   have hn2 : n2 = ⟨#[]⟩ := by
    have := congrArg (fun a : Array Value => a[2]?) hq1
    simpa using this
   have hh2 : hp2 = hp := by
    have := congrArg (fun a : Array Value => a[3]?) hq1
    simpa using this
   subst he2 hn2 hh2
   have b3 : (nd.f2 != 2) = false := by rw [hk]; rfl
   have HU : Aside0 (∀ W, Below w10.heap.size w10 W → Calls Tryd.prog 15 #[.pointer (some ⟨g, 0, none⟩), .int .i64 x] W fun e w' => e = .returned (.int .i64 (F.upE x)) ∧ Below W.heap.size W w') := ⟨fun W hb => (up_calls g F x W (HF10.out.read.below hb)).mono (by rintro e w' ⟨he, rfl⟩; exact ⟨he, Below.refl _ _⟩)⟩
   have HO : Aside0 (∀ W, Below w10.heap.size w10 W → Calls Tryd.prog 14 #[.pointer (some ⟨g, 0, none⟩), .int .i64 (F.upE x)] W fun e w' => e = .returned (.int .i64 x2) ∧ Below W.heap.size W w') := ⟨fun W hb => by rw [hx2]; exact (over_calls g F (F.upE x) W (HF10.out.read.below hb)).mono (by rintro e w' ⟨he, rfl⟩; exact ⟨he, Below.refl _ _⟩)⟩
   clear hq1 hx2 hk2 hk
   go_upto_region 11 with fail
   have p0x := Ext.cell p0
   have p3x := Ext.cell p3
   have q0x := Ext.cell q0
   have q2x := Ext.cell q2
   have q3x := Ext.cell q3
   clear p0 p1 p2' p3 q0 q1 q2 q3 k2
   refine wp_region_ext (by kernel_rfl) (by kernel_rfl) ?_
   repeat (go_big_quiet_step ((rename_i x; first | exact Ext.call x (HU.out _ x.bel) | exact Ext.call x (HO.out _ x.bel))))
   refine wpQuiet_nil ?_
   rintro _ ⟨⟨w11, hb11⟩, rfl⟩
   have HB11 := Aside0.mk (below_step HB10.out hb11)
   clear hb11 p0x p3x q0x q2x q3x
   go_wp2
   go_ret
   exact ⟨rfl, HB11.out⟩
  ·have hk2 := HKK.out
   rw [← HND.out] at hk2
   obtain ⟨_, he2⟩ := hk2.resolve_right (fun h => hk h.1)
   replace he2 : e2 = 3 := he2
   subst he2
   have b3 : (nd.f2 != 2) = true := by rw [bne_iff_ne]; exact hk
   clear hk hk2
   go_wp2
   go_ret
   exact ⟨rfl, HB10.out⟩
 ·have b1 : (e1 != 0) = true := by rw [bne_iff_ne]; exact he1
  have he2 : e2 ≠ 0 := by
   rcases HW.out with ⟨_, h⟩ | ⟨h, _⟩
   ·exact h
   ·exact absurd h he1
  have b2 : (e2 != 0) = true := by rw [bne_iff_ne]; exact he2
  clear he1 he2
  go_wp2
  go_ret
  exact ⟨rfl, HB8.out⟩
end Go.Proofs.YtcbjkfhflmlniaaDoor.QVfs
end

section
namespace Go.Proofs.YtcbjkfhflmlniaaDoor.QVfs
open Go.RowKit Go.Proofs.YtcbjkfhflmlniaaDoorW.PrintWords Go.Proofs.YtcbjkfhflmlniaaDoorW.PrintLast Go.Proofs.YtcbjkfhflmlniaaDoorW.PrintMore
set_option linter.unusedVariables false
def domesdaylaw08_PathUp.f (l : List S59) : Option Bool := if (l.all fun x => (Lit.int .i64 x.f7).wf) = true then some true else none
theorem domesdaylaw08_PathUp.calls (A : Option Addr) (c : Nat) (l : List S59) (uid gid : Int) (path : ByteArray) (follow : Bool) (r : Bool) (w : World) (hC : Kd.C k59 w A l.length l) (hc : l.length ≤ c) (h : domesdaylaw08_PathUp.f l = some r) :
  Calls Tryd.prog 4 #[.agg #[.slice A l.length c, .int .i64 uid, .int .i64 gid, .string path, .bool follow]] w fun e w' => e = .returned (.bool r) ∧ Below w.heap.size w w' := by
 unfold domesdaylaw08_PathUp.f at h
 split at h
 ·rename_i hw
  obtain rfl := Option.some.inj h
  have h7 : ∀ x ∈ l, x.f7 ≤ 9223372036854775807 := fun x hx => by
   have := List.all_eq_true.1 hw x hx
   simp [Lit.wf, IntKind.min, IntKind.max, IntKind.signed, IntKind.bits] at this
   omega
  by_cases hf : fewB l 30 = true ∧ path.size ≤ 1000
  ·exact up_true A c l uid gid path follow w hC hc hf.1 hf.2 h7
  ·exact up_not A c l uid gid path follow w hC hc hf
 ·cases h
end Go.Proofs.YtcbjkfhflmlniaaDoor.QVfs
end

section
namespace Go.Proofs.YtcbjkfhflmlniaaDoor.Pure
open Go.RowKit Go.Proofs.YtcbjkfhflmlniaaDoor.QVfs
set_option linter.unusedVariables false
theorem PathUp (l : List S59) (uid gid : Int) (path : ByteArray) (follow : Bool) {Q : Prop} (hl : (∀ y ∈ l, ((Lit.int .i64 y.f0).wf = true) ∧ ((Lit.int .i64 y.f1).wf = true) ∧ ((Lit.int .i64 y.f2).wf = true) ∧ (y.f3.size ≤ maxLen) ∧ (y.f4.size ≤ maxLen) ∧ ((Lit.int .i64 y.f5).wf = true) ∧ ((Lit.int .i64 y.f6).wf = true) ∧ ((Lit.int .i64 y.f7).wf = true)) ∧ Q) : domesdaylaw08_PathUp.f l = some true := by
 unfold domesdaylaw08_PathUp.f
 rw [if_pos (List.all_eq_true.2 fun y hy => (hl.1 y hy).2.2.2.2.2.2.2)]
end Go.Proofs.YtcbjkfhflmlniaaDoor.Pure
end

section
namespace Go.Proofs.YtcbjkfhflmlniaaDoor.pathUp
open Go.ChangeShapes Go.WideShapes Go.ChangeAt Go.RowKit Go.Proofs.YtcbjkfhflmlniaaDoorW.VRow Go.Proofs.YtcbjkfhflmlniaaDoorW.VRow3 Go.Proofs.YtcbjkfhflmlniaaDoorW.PrintWords
open Go.ChangeMaps (open_string shut_string)
set_option linter.unusedVariables false
theorem own : ownKnob Tryd.prog.godebug = none := by kernel_rfl
theorem laidOut : laidOutB Tryd.prog = true := by kernel_rfl
theorem tells3 : TellsQ Tryd.prog 3 (Kd.int .i64) (fun x : Int => (Lit.int .i64 x).wf = true) := TellsQ.int Tryd.underlying3
theorem tells9 : TellsQ Tryd.prog 9 Kd.string (fun x : ByteArray => x.size ≤ maxLen) := TellsQ.str Tryd.underlying9
theorem tells2 : TellsQ Tryd.prog 2 (Kd.int .i64) (fun x : Int => (Lit.int .i64 x).wf = true) := TellsQ.int Tryd.underlying2
theorem tells59 : TellsQ Tryd.prog 59 QVfs.k59 (fun x : QVfs.S59 => ((Lit.int .i64 x.f0).wf = true) ∧ ((Lit.int .i64 x.f1).wf = true) ∧ ((Lit.int .i64 x.f2).wf = true) ∧ (x.f3.size ≤ maxLen) ∧ (x.f4.size ≤ maxLen) ∧ ((Lit.int .i64 x.f5).wf = true) ∧ ((Lit.int .i64 x.f6).wf = true) ∧ ((Lit.int .i64 x.f7).wf = true)) := TellsQ.iso (TellsQ.structA Tryd.underlying59 (by kernel_rfl) (TellsFQ.cons rfl (by kernel_rfl) tells3 (TellsFQ.cons rfl (by kernel_rfl) tells3 (TellsFQ.cons rfl (by kernel_rfl) tells3 (TellsFQ.cons rfl (by kernel_rfl) tells9 (TellsFQ.cons rfl (by kernel_rfl) tells9 (TellsFQ.cons rfl (by kernel_rfl) tells3 (TellsFQ.cons rfl (by kernel_rfl) tells3 (TellsFQ.one rfl (by kernel_rfl) tells2))))))))) (fun x : QVfs.S59 => (x.f0, x.f1, x.f2, x.f3, x.f4, x.f5, x.f6, x.f7)) (fun p => ⟨p.1, p.2.1, p.2.2.1, p.2.2.2.1, p.2.2.2.2.1, p.2.2.2.2.2.1, p.2.2.2.2.2.2.1, p.2.2.2.2.2.2.2⟩) (fun _ => rfl)
theorem tells28 : TellsQ Tryd.prog 28 (Kd.slice 59 QVfs.k59) (fun x : List _ => ∀ y59 ∈ x, ((Lit.int .i64 y59.f0).wf = true) ∧ ((Lit.int .i64 y59.f1).wf = true) ∧ ((Lit.int .i64 y59.f2).wf = true) ∧ (y59.f3.size ≤ maxLen) ∧ (y59.f4.size ≤ maxLen) ∧ ((Lit.int .i64 y59.f5).wf = true) ∧ ((Lit.int .i64 y59.f6).wf = true) ∧ ((Lit.int .i64 y59.f7).wf = true)) := TellsQ.slice Tryd.underlying28 tells59 (by kernel_rfl)
theorem tells30 : TellsQ Tryd.prog 30 (Kd.pair (Kd.int .i64) (Kd.int .i64)) (fun x => ((Lit.int .i64 x.1).wf = true) ∧ ((Lit.int .i64 x.2).wf = true)) := by
 have h := TellsQ.structA Tryd.underlying30 (by kernel_rfl) (TellsFQ.cons rfl (by kernel_rfl) tells3 (TellsFQ.one rfl (by kernel_rfl) tells3))
 exact h
theorem tells4 : TellsQ Tryd.prog 4 Kd.bool (fun x : Bool => True) := TellsQ.bool Tryd.underlying4
theorem tells32 : TellsQ Tryd.prog 32 (Kd.pair (Kd.slice 59 QVfs.k59) (Kd.pair (Kd.pair (Kd.int .i64) (Kd.int .i64)) (Kd.pair Kd.string Kd.bool))) (fun x => (∀ y59 ∈ x.1, ((Lit.int .i64 y59.f0).wf = true) ∧ ((Lit.int .i64 y59.f1).wf = true) ∧ ((Lit.int .i64 y59.f2).wf = true) ∧ (y59.f3.size ≤ maxLen) ∧ (y59.f4.size ≤ maxLen) ∧ ((Lit.int .i64 y59.f5).wf = true) ∧ ((Lit.int .i64 y59.f6).wf = true) ∧ ((Lit.int .i64 y59.f7).wf = true)) ∧ (((Lit.int .i64 x.2.1.1).wf = true) ∧ ((Lit.int .i64 x.2.1.2).wf = true)) ∧ (x.2.2.1.size ≤ maxLen) ∧ (True)) := by
 have h := TellsQ.structA Tryd.underlying32 (by kernel_rfl) (TellsFQ.cons rfl (by kernel_rfl) tells28 (TellsFQ.cons rfl (by kernel_rfl) tells30 (TellsFQ.cons rfl (by kernel_rfl) tells9 (TellsFQ.one rfl (by kernel_rfl) tells4))))
 exact h
set_option maxRecDepth 100000 in
theorem lifted (os : Os) (started : os.Started) (H : Type) (enc : TypeId × Value → H) :
  ReturnsInHanded {} Tryd.checked os 4 .any (fun w args => (Rows.pathUpSpec.pre enc Tryd.prog Tryd.f4 Rows.pathUpRow.domain false w args ∧ laidMetH Tryd.prog Rows.pathUpRow.laid w) ∧ sizedMet enc Tryd.prog Tryd.f4 (OpenSpec.ofChange Rows.pathUpSpec) false w args)
   (Rows.pathUpSpec.post enc Tryd.prog Tryd.f4 false true false false) := by
 refine returnsInHanded_of_change_and (C := Tryd.checked) (X := fun w _ => laidMetH Tryd.prog Rows.pathUpRow.laid w) (fun _ _ _ hh h => h.of_heap hh) own started (by kernel_rfl) Tryd.func4
  (ChangeSpec.witness_shaped (enc := enc) (C := Tryd.checked) (os := os) (X := fun w _ => laidMetH Tryd.prog Rows.pathUpRow.laid w) false (World.laidAll Tryd.prog os Rows.pathUpRow.laid) #[.agg #[.slice none 0 0, .int .i64 0, .int .i64 0, .string ByteArray.empty, .bool false]] 8 (World.laidAll_os _ _ _)
   (World.shaped_of_ZipB (by kernel_rfl) (by kernel_rfl)) (by kernel_rfl) (by kernel_rfl) (by kernel_rfl)
   (by rw [MakeChecks.laidMetH_plain _ _ _ (by kernel_rfl)]; exact laidMet_laidAll _ (by kernel_rfl) (by kernel_rfl))) ?_
 intro W base args ds gs before hval0 hW hcnd hsz0 hL _
 have hsz : (DataW.weightsEach Tryd.prog (Tryd.f4.params.toList ++ Rows.pathUpSpec.plain.varTypes Tryd.prog) (ds ++ gs)).all (· ≤ reachBytes) = true := hsz0
 have hval : ∀ (j : Nat) t v, Tryd.f4.params[j]? = some t → args[j]? = some v → Value.okWide Tryd.prog W .any base t v := hval0
 have hW' := hW
 obtain ⟨p, q, hA0, hV, rfl, hfz, hnd⟩ := hW
 have hA : DataW.TrodAll enc Tryd.prog W 0 (fun _ => true) true Tryd.f4.params.toList args.toList ds p := hA0
 rw [Tryd.params4] at hA hval hsz
 obtain ⟨v0, vs0, d0, ds0, p0, q0, hargs, rfl, rfl, h0, r0⟩ := trodAll_cons hA
 obtain ⟨rfl, rfl, rfl⟩ := trodAll_nil r0
 obtain rfl : args = #[v0] := by cases args; simp_all
 obtain ⟨rfl, rfl⟩ := trodVars_none hV
 have k0 := h0
 have lt0 : ∀ x ∈ p0, x.block < W.heap.size := by obtain ⟨m, hm⟩ := k0; exact DataW.trod_lt m _ _ _ hm
 obtain ⟨⟨l0_0, ⟨x0_1, x0_2⟩, x0_3, x0_4⟩, cs0, rfl, K0, w0⟩ := open_toldS tells32 (by obtain ⟨cs, hc, _⟩ := okWide_struct Tryd.underlying32 (hval 0 32 v0 rfl rfl); exact ⟨cs, hc⟩) h0
 obtain ⟨_, _, rfl, ⟨A0_0, c0_0, rfl, le0_0, C0_0⟩, ⟨_, _, rfl, ⟨_, _, rfl, rfl, rfl⟩, ⟨_, _, rfl, rfl, rfl⟩⟩⟩ := K0
 clear hA0 hval0 hsz0 hsz
 have hk := Pure.PathUp l0_0 x0_1 x0_2 x0_3 x0_4 w0
 refine (QVfs.domesdaylaw08_PathUp.calls A0_0 c0_0 l0_0 x0_1 x0_2 x0_3 x0_4 true W C0_0 le0_0 hk).mono fun e W' ⟨he, bel0⟩ => ?_
 have bel : Below W.heap.size W W' := bel0
 subst he
 exact ⟨_, rfl, _, _, _, [], _, [], hW', trodAll_mk1 (shut_bool Tryd.underlying4 _), (trodAll_cons_mk (Below.trod laidOut (by kernel_rfl) (of_decide_eq_true (by kernel_rfl)) k0 bel lt0) trodAll_mk0), rfl, bel.frame _, fun h => by cases h⟩
theorem over : Rows.pathUpRow.holds Tryd.pinned (OpenSpec.ofChange Rows.pathUpSpec) :=
 OpenClaim.holds_of_wide 4 Tryd.f4 rfl rfl rfl rfl rfl rfl rfl ⟨rfl, rfl, rfl, rfl, rfl⟩ rfl rfl rfl rfl rfl (by kernel_rfl) Tryd.func4 (by kernel_rfl)
  (of_decide_eq_true (by kernel_rfl)) (by unfold Func.isWrapper; first | (rw [if_pos (by decide +kernel)]; kernel_rfl) | (rw [if_neg (by decide +kernel)]; exact ⟨rfl, rfl⟩))
  (fun os started H enc _ => lifted os started H enc)
theorem proved : Rows.PathUpCardSaid :=
 Claim7.holds_tied_plain_at .later [] [.data, .pinned] true (true, "65ce2ad83cbc6b42c5592c41a5fb6fa4b1f91b91c8fbfd966f2c3b1575f5c5ea") false over (fun _ h => by cases h) (by kernel_rfl) (fun _ h => by cases h) pathUp_row_tie rfl ⟨rfl, rfl⟩ (by kernel_rfl) rfl
  (fun f fn hf hfn => by
   obtain rfl : f = 4 := Option.some.inj ((show Tryd.prog.funcNamed "domesday/domesdaylaw08.PathUp" = some 4 by kernel_rfl).symm.trans hf) |>.symm
   obtain rfl : fn = Tryd.f4 := (Option.some.inj (Tryd.func4.symm.trans hfn)).symm
   exact ⟨by kernel_rfl, fun j t ht => by
    rw [Tryd.params4] at ht
    have hm : t ∈ [32] := by simpa using Array.mem_of_getElem? ht
    have hall : ([32].all fun u => !Tryd.prog.wantsStandIn u) = true := by kernel_rfl
    exact (show Tryd.prog.wantsStandIn t = false by simpa using List.all_eq_true.1 hall t hm)⟩)
  (by kernel_rfl)
#print axioms proved
end Go.Proofs.YtcbjkfhflmlniaaDoor.pathUp
namespace Go.Proofs.YtcbjkfhflmlniaaDoor
theorem pathUp_holds : Rows.PathUpCardSaid := pathUp.proved
end Go.Proofs.YtcbjkfhflmlniaaDoor
end
