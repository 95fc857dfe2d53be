import Derived.Test.YtcbjkfhflmlniaaDoorKShelf
import Derived.Test.YtcbjkfhflmlniaaDoorKWords
import Derived.Test.YtcbjkfhflmlniaaDoorKXPMath
import Derived.Shelf.SlicesE.DeleteFunc
import Derived.Shelf.Strings.SplitCore
import Derived.Lib.SliceRun
-- Texts of this seat, what the claim does not reach struck out by a program.
namespace Go.Proofs
open Go.Shelf
def Tryd.l10_ren : Go.Shelf.Ren := ⟨fun | 6 => 34 | 10 => 19 | n => n, fun | 22 => 23 | 23 => 9 | 25 => 27 | n => n, fun | n => n⟩
theorem Tryd.l10 : SlLaysH.n10 Tryd.prog Tryd.l10_ren := {
 mixed := by kernel_rfl
 f6 := ⟨Tryd.f34.name, by kernel_rfl, Tryd.func34.trans (congrArg some (by kernel_rfl))⟩
 f10 := ⟨Tryd.f19.name, by kernel_rfl, Tryd.func19.trans (congrArg some (by kernel_rfl))⟩
 t0 := Tryd.underlying0
 a0 := Tryd.isAgg0
 z0 := Tryd.sizeOf0
 v0 := Tryd.zeroValue0
 t3 := Tryd.underlying3
 a3 := Tryd.isAgg3
 z3 := Tryd.sizeOf3
 v3 := Tryd.zeroValue3
 t4 := Tryd.underlying4
 a4 := Tryd.isAgg4
 z4 := Tryd.sizeOf4
 v4 := Tryd.zeroValue4
 t22 := Tryd.underlying23
 a22 := Tryd.isAgg23
 z22 := Tryd.sizeOf23
 v22 := Tryd.zeroValue23
 a23 := Tryd.isAgg9
 z23 := Tryd.sizeOf9
 t25 := Tryd.underlying27
 a25 := Tryd.isAgg27
 z25 := Tryd.sizeOf27
 v25 := Tryd.zeroValue27 }
end Go.Proofs
namespace Go.Proofs.YtcbjkfhflmlniaaDoor.Ext
open Go.RowKit Go.Shelf Go.Lib Go.Sort Go.Proofs.YtcbjkfhflmlniaaDoor.PathMath Go.Proofs.YtcbjkfhflmlniaaDoorW.PrintWords Go.Proofs.YtcbjkfhflmlniaaDoorW.PrintLast Go.Proofs.YtcbjkfhflmlniaaDoorW.PrintMore
set_option linter.unusedVariables false
set_option linter.unusedSimpArgs false
abbrev sl : ByteArray := ⟨#[47]⟩
def pieces (s : ByteArray) : List ByteArray := splitB sl 0 (countB s sl) s
theorem pieces_len (s : ByteArray) : (pieces s).length = countB s sl + 1 := splitB_all sl (by decide) 0 _ s rfl
theorem count_le (s : ByteArray) : countB s sl ≤ s.size := countB_le sl (by decide) s.size s (Nat.le_refl _)
def path_Names.f (a : ByteArray) : Option (List ByteArray × Bool × Bool) :=
 if a.size ≤ 100000 then some ((pieces a).filter full, hasPrefix a.data.toList [47], hasSuffix a.data.toList [47]) else none
theorem hi9 : (Tryd.prog.info? (Tryd.lays221_ren.t 9)).map (fun i => (i.zero, i.size, i.bytes)) = some (some (.string ByteArray.empty), 1, 16) := by kernel_rfl
theorem split_calls (s : ByteArray) (hs : s.size ≤ 100000) (w : World) : Calls Tryd.prog 20 #[.string s, .string sl] w fun e w' =>
  e = .returned (.slice (some ⟨w.heap.size, 0, none⟩) (pieces s).length (pieces s).length) ∧ w' = w.alloc (.cells ((pieces s).map Value.string).toArray 9) := by
 have hlen := pieces_len s
 have hle := count_le s
 have c := Any.strings_genSplit_core Tryd.lays221 hi9 s sl 0 (-1) (countB s sl + 1) w (by omega) (by decide) (Nat.zero_le _)
  (fun x c hx => (Tryd.strings_Index_one x 47 _).mono fun e w' ⟨he, hw⟩ => ⟨by rw [he, ← index_one], hw⟩)
  ((Tryd.strings_Count_one s 47 w).mono fun e w' ⟨he, hw⟩ => ⟨by rw [he]; show _ = Ending.returned (Value.int .i64 ((Lib.count s.data.toList [47] : Nat) : Int)); rw [Lib.count_one]; rfl, hw⟩)
  (by decide) (by decide) (by rw [if_pos (by decide)]; omega)
 have e1 : splitB sl 0 (countB s sl + 1 - 1) s = pieces s := rfl
 rw [e1] at c
 have e2 : cellsOf (pieces s) (countB s sl + 1) = ((pieces s).map Value.string).toArray := by rw [← hlen]; exact cellsOf_full _
 rw [e2, ← hlen] at c
 change Calls Tryd.prog 35 _ _ _ at c
 generalize pieces s = ps at c ⊢
 go_enter Tryd.func20, Tryd.ntmps20
 go_wp2_with (go_at_call 35; refine c.mono ?_; rintro e w' ⟨rfl, rfl⟩)
 go_ret
 exact ⟨rfl, rfl⟩
theorem closure_gives (x : ByteArray) (W : World) : FnGives Tryd.prog 21 #[] #[.string x] (.bool (!full x)) W := by
 show Calls Tryd.prog 21 #[.string x] W _
 have e : (!full x) = x.toList.isEmpty := by unfold full; simp
 rw [e]
 go_enter Tryd.func21, Tryd.ntmps21
 go_wp2
 all_goals (go_ret; exact ⟨by first | rfl | simp_all, 0, rfl⟩)
set_option maxHeartbeats 1000000 in
theorem delete_calls (ps : List ByteArray) (w : World) (hn : ps.length ≤ 1000000) : Calls Tryd.prog 19 #[.slice (some ⟨w.heap.size, 0, none⟩) ps.length ps.length, .func (.func 21) #[] #[]] (w.alloc (.cells (ps.map Value.string).toArray 9)) fun e w' =>
  e = .returned (.slice (some ⟨w.heap.size, 0, none⟩) (ps.filter full).length ps.length) ∧
   ∃ q, w' = putRow Value.string (Sort.ahead (w.alloc (.cells (ps.map Value.string).toArray 9)) q) w.heap.size 0 ((ps.filter full) ++ List.replicate (ps.length - (ps.filter full).length) ByteArray.empty).toArray := by
 have eg : ∀ args w, (callFunc 21 args).run Tryd.prog w = .ok (.enter 21 args) w := enters_of Tryd.func21 (by kernel_rfl) rfl
 have hH : Holds Value.string (w.alloc (.cells (ps.map Value.string).toArray 9)) w.heap.size 0 ps.toArray := by
  intro j hj
  have hj' : j < ps.length := by simpa using hj
  have hb := heap_alloc_new w (.cells (ps.map Value.string).toArray 9)
  constructor
  ·rw [blk_cell hb (0 + j)]
   simp [hj']
  ·exact blk_frozen hb (0 + j)
 have hcon := AnyE.slices_DeleteFunc Tryd.l10 Value.string (fun _ => rfl) (fun x => !full x) 21 #[] eg ByteArray.empty Tryd.zeroValue9 w.heap.size 0 ps.length ps.toArray (w.alloc (.cells (ps.map Value.string).toArray 9))
  (fun W x _ => closure_gives x W) (fun n os dk x _ => closure_gives x _) hH (by simp; omega) (by simp)
 change Calls Tryd.prog 19 _ _ _ at hcon
 simp only [Bool.not_not, List.size_toArray, List.toList_toArray] at hcon
 exact hcon
theorem putCells_all (cs : Array Value) (d : Array ByteArray) (hd : d.size = cs.size) : putCells Value.string 0 d cs = d.map Value.string := by
 apply Array.ext
 ·simp [putCells, hd]
 ·intro i h1 h2
  have hi : i < d.size := by simpa using h2
  simp [putCells, hi, getElem!_pos]
theorem putRow_new (w : World) (cs : Array Value) (q : Nat) (d : Array ByteArray) (hd : d.size = cs.size) :
  (putRow Value.string (Sort.ahead (w.alloc (Obj.cells cs 9)) q) w.heap.size 0 d).heap[w.heap.size]? = some (Obj.cells (d.map Value.string) 9 (0, 0)) := by
 have hb := heap_alloc_new w (Obj.cells cs 9)
 have hb' : (Sort.ahead (w.alloc (Obj.cells cs 9)) q).heap[w.heap.size]? = some (Obj.cells cs 9 (0, 0)) := hb
 unfold putRow mapBlock
 simp only [Array.getElem?_modify, if_true, hb', Option.map_some, onCells, putCells_all cs d hd]
theorem putRow_old (w : World) (cs : Array Value) (q : Nat) (d : Array ByteArray) : Below w.heap.size w (putRow Value.string (Sort.ahead (w.alloc (Obj.cells cs 9)) q) w.heap.size 0 d) := by
 refine ⟨rfl, rfl, rfl, ?_, ?_⟩
 ·rw [size_putRow]
  show w.heap.size ≤ (w.alloc (Obj.cells cs 9)).heap.size
  rw [World.size_alloc]; omega
 ·intro j hj
  have h1 : (w.alloc (Obj.cells cs 9)).heap[j]? = w.heap[j]? := Below.heap_alloc w _ j hj
  unfold putRow mapBlock
  simp only [Array.getElem?_modify, if_neg (show ¬ w.heap.size = j from by omega)]
  exact h1
theorem row_new {w : World} {base g n : Nat} {ps : List ByteArray} {cells : Array Value} (hg : base ≤ g) (hb : w.heap[g]? = some (Obj.cells cells 9 (0, 0))) (hn : ps.length ≤ n) (hm : n ≤ 1000000) (hc : cells.size = n)
  (ht : cells.toList.take ps.length = ps.map Value.string) : Kd.string.R 9 w base (fun _ => True) (.slice (some ⟨g, 0, none⟩) ps.length n) ps := by
 refine ⟨fun _ _ => trivial, ps.map Value.string, ⟨by show _ = ps.length * 1; simp, .inr ⟨g, n, cells, rfl, hg, hb, hn, by unfold maxLen; omega, by rw [hc]; exact (Nat.mul_one n).symm, by show cells.toList.take (ps.length * 1) = _; rw [Nat.mul_one, ht]⟩⟩, ?_⟩
 refine ⟨by show _ = ps.length * 1; simp, ?_⟩
 intro j p hp
 show ((ps.map Value.string).drop (j * 1)).take 1 = [Value.string p]
 have hl : j < ps.length := by
  rcases Nat.lt_or_ge j ps.length with h | h
  ·exact h
  ·rw [List.getElem?_eq_none h] at hp; cases hp
 have hp' : ps[j]'hl = p := by rw [List.getElem?_eq_getElem hl] at hp; exact Option.some.inj hp
 rw [Nat.mul_one, List.drop_eq_getElem_cons (by simpa using hl)]
 simp [hp']
set_option maxHeartbeats 1000000 in
theorem path_Names.calls (a0 : ByteArray) (r0 : List ByteArray) (r1 r2 : Bool) (w : World) (h : path_Names.f a0 = some (r0, r1, r2)) :
  Calls Tryd.prog 8 #[.string a0] w fun e w' => ∃ v0_, e = .returned (.tuple #[v0_, .bool r1, .bool r2]) ∧ Kd.string.R 9 w' w.heap.size (fun _ => True) v0_ r0 ∧ Below w.heap.size w w' := by
 unfold path_Names.f at h
 split at h
 ·next hs =>
  have h' := Option.some.inj h
  obtain ⟨rfl, h2⟩ := Prod.mk.inj h'
  obtain ⟨rfl, rfl⟩ := Prod.mk.inj h2
  clear h h' h2
  have hlen := pieces_len a0
  have hle := count_le a0
  have c1 := split_calls a0 hs w
  have c2 := delete_calls (pieces a0) w (by omega)
  have c3 := fun W => Tryd.strings_HasPrefix a0 ⟨#[47]⟩ W
  have c4 := fun W => Tryd.strings_HasSuffix a0 ⟨#[47]⟩ W (by omega)
  have fl : ((pieces a0).filter full).length ≤ (pieces a0).length := List.length_filter_le _ _
  have fin : ∀ q, Kd.string.R 9 (putRow Value.string (Sort.ahead (w.alloc (Obj.cells ((pieces a0).map Value.string).toArray 9)) q) w.heap.size 0 (((pieces a0).filter full) ++ List.replicate ((pieces a0).length - ((pieces a0).filter full).length) ByteArray.empty).toArray) w.heap.size (fun _ => True) (.slice (some ⟨w.heap.size, 0, none⟩) ((pieces a0).filter full).length (pieces a0).length) ((pieces a0).filter full) := by
   intro q
   refine row_new (Nat.le_refl _) (putRow_new w _ q _ ?_) fl (by omega) ?_ ?_
   ·simp; omega
   ·simp; omega
   ·simp
  have bel := fun q => putRow_old w ((pieces a0).map Value.string).toArray q (((pieces a0).filter full) ++ List.replicate ((pieces a0).length - ((pieces a0).filter full).length) ByteArray.empty).toArray
  generalize pieces a0 = ps at c1 c2 fin bel ⊢
  clear hlen hle fl
  go_enter Tryd.func8, Tryd.ntmps8
  go_wp2_with (first | (go_at_call 20; refine c1.mono ?_; rintro e w' ⟨rfl, rfl⟩) | (go_at_call 19; refine c2.mono ?_; rintro e w' ⟨rfl, q, rfl⟩) | (go_at_call 22; refine (c3 _).mono ?_; rintro e w' ⟨rfl, rfl⟩) | (go_at_call 23; refine (c4 _).mono ?_; rintro e w' ⟨rfl, rfl⟩))
  go_ret3
  exact ⟨_, rfl, fin _, bel _⟩
 ·cases h
end Go.Proofs.YtcbjkfhflmlniaaDoor.Ext
