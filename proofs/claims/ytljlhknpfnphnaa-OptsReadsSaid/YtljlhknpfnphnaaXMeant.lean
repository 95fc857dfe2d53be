/- The reader's meant: the spec that a long name means. strings.Cut at one byte. -/
import Derived.Test.YtljlhknpfnphnaaXIdx
import Derived.Test.YtljlhknpfnphnaaShelf
import Derived.Lib.Bytealg
namespace Go.Proofs.Ytljlhknpfnphnaa.QOpts
open Go.RowKit Go.Lib Go.Proofs.YtljlhknpfnphnaaW.PrintWords Go.Proofs.YtljlhknpfnphnaaW.PrintLast Go.Proofs.YtljlhknpfnphnaaW.PrintMore
set_option linter.unusedVariables false
set_option linter.unusedSimpArgs false

def beginsB (s t : ByteArray) : Bool := Lib.hasPrefix s.data.toList t.data.toList
def prefP (name : ByteArray) (x : S42) : Bool := !x.f1.toList.isEmpty && beginsB x.f1 name
def one42 : List S42 → Option S42
  | [x] => some x
  | _ => none
/-- The spec that a long name means. -/
def meantF (specs : List S42) (name : ByteArray) : Option S42 :=
  match specs.find? (exactP name) with
  | some x => some x
  | none => one42 (specs.filter (prefP name))
def meantV (o : Option S42) : Value := .tuple #[.agg #[.int .u8 (o.getD z42).f0, .string (o.getD z42).f1, .bool (o.getD z42).f2], .bool o.isSome]
def MeantPost (o : Option S42) (w : World) (e : Ending) (w' : World) : Prop := e = .returned (meantV o) ∧ Below w.heap.size w w'
theorem Idx.find {p : S42 → Bool} {l : List S42} {r : Int} (h : Idx p l r) : (∃ k : Nat, ∃ hk : k < l.length, r = (k : Int) ∧ l.find? p = some l[k]) ∨ (r = -1 ∧ l.find? p = none) := by
  rcases h with ⟨k, hk, rfl, hp, hn⟩ | ⟨rfl, hn⟩
  · left
    refine ⟨k, hk, rfl, ?_⟩
    rw [List.find?_eq_some_iff_getElem]
    exact ⟨hp, k, hk, rfl, fun j hj => by rw [hn j hj]; rfl⟩
  · right
    exact ⟨rfl, by rw [List.find?_eq_none]; intro x hx; rw [hn x hx]; decide⟩
set_option maxHeartbeats 4000000 in
set_option maxRecDepth 100000 in
theorem meant_calls {w0 w : World} {g : Nat} {specs : List S42} {args : List ByteArray} {os : List S36} {ps : List ByteArray} {bad : ByteArray} {e : Int}
    (h : St w0 w g specs args os ps bad e) (hn : specs.length ≤ 1000000) (name : ByteArray) :
    Calls Try.prog 34 #[.pointer (some ⟨g, 0, none⟩), .string name] w (MeantPost (meantF specs name) w) := by
  obtain ⟨As, cs, Aa, ca, vo, vp, h⟩ := h
  have bW := below_alloc (below_alloc (Below.refl w.heap.size w) (Obj.cells #[.string name] 9)) (Obj.cells #[.int .u8 0, .string ⟨#[]⟩, .bool false] 42)
  have gl := blk_lt h.blk
  have c0 : ((w.alloc (Obj.cells #[.string name] 9)).alloc (Obj.cells #[.int .u8 0, .string ⟨#[]⟩, .bool false] 42)).cell? ⟨g, 0, none⟩ = some (.slice As specs.length cs) := (bW.cell gl).trans (h.cell 0 _ rfl)
  have hCw : Kd.C k42 w As specs.length specs := Kd.C_below h.hs h.bel
  have hnm : ((w.alloc (Obj.cells #[.string name] 9)).alloc (Obj.cells #[.int .u8 0, .string ⟨#[]⟩, .bool false] 42)).cell? ⟨w.heap.size, 0, none⟩ = some (.string name) := by
    go_simp
  have cI := indexFunc_spec 42 #[.pointer (some ⟨w.heap.size, 0, none⟩)] (exactP name) ((w.alloc (Obj.cells #[.string name] 9)).alloc (Obj.cells #[.int .u8 0, .string ⟨#[]⟩, .bool false] 42)) As cs specs (Kd.C_below hCw bW) h.hsc (enters_of Try.func42 (by kernel_rfl) rfl)
    (fun x W hb => closure42 w.heap.size name x W (pw_cell_below hb hnm))
  have A := Aside0.mk h
  have AB := Aside0.mk bW
  have AC := Aside0.mk hCw
  clear h bW hCw
  go_enter Try.func34, Try.ntmps34
  go_upto_region 2 with (go_at_call 38; refine cI.mono ?_; rintro e w1 ⟨r, rfl, hi, hb1⟩)
  have hlt := hb1.size
  have e0 := pw_cell_below hb1 c0
  have e1 := pw_cell_below hb1 hnm
  have bR : w1.heap[w.heap.size + 1]? = some (.cells #[.int .u8 0, .string ⟨#[]⟩, .bool false] 42 (0, 0)) := by
    rw [hb1.block _ (by simp [World.size_alloc])]
    have := heap_alloc_new (w.alloc (Obj.cells #[.string name] 9)) (Obj.cells #[.int .u8 0, .string ⟨#[]⟩, .bool false] 42)
    rw [World.size_alloc] at this
    exact this
  have BW1 := below_step AB.out hb1
  have C1 := Kd.C_below AC.out BW1
  have AI := Aside0.mk hi.find
  have AB1 := Aside0.mk BW1
  have AC1 := Aside0.mk C1
  have ABR := Aside0.mk bR
  have hsc := A.out.hsc
  have hmx := Kd.C_max C1
  clear hi BW1 C1 c0 hnm cI hb1 hlt
  have r0 := (blk_cell bR 0).trans rfl
  have r1 := (blk_cell bR 1).trans rfl
  have r2 := (blk_cell bR 2).trans rfl
  have f0 := blk_frozen bR 0
  have f1 := blk_frozen bR 1
  have f2 := blk_frozen bR 2
  clear bR
  rcases AI.out with ⟨k, hk, rfl, hfd⟩ | ⟨rfl, hfd⟩
  · have hv : meantF specs name = some specs[k] := by unfold meantF; rw [hfd]
    obtain ⟨ad, he, k0, k1, k2⟩ := at_T42 AC1.out (k : Int) (by omega) (by omega)
    have ex : rd_T42 specs (k : Int) = specs[k] := by unfold rd_T42; simp [hk]
    rw [ex, Int.toNat_natCast] at k0 k1 k2
    have n0 : (0 : Int) ≤ (k : Int) := by omega
    have n1 : (k : Int) < (specs.length : Int) := by omega
    subst he
    have AV := Aside0.mk hv
    clear hfd AI hv
    go_wp2_with (fail)
    have b3 := blk_set (blk_set (blk_set ABR.out 0 (.int .u8 specs[k].f0)) 1 (.string specs[k].f1)) 2 (.bool specs[k].f2)
    have s0 := (blk_cell b3 0).trans rfl
    have s1 := (blk_cell b3 1).trans rfl
    have s2 := (blk_cell b3 2).trans rfl
    refine bodyPost_ret (v := .tuple #[.agg #[.int .u8 specs[k].f0, .string specs[k].f1, .bool specs[k].f2], .bool true]) (by simp [results, Try.results34, go_sem, s0, s1, s2]) rfl ⟨?_, ?_⟩
    · rw [AV.out]; rfl
    · exact ((AB1.out.setCell (by simp) _).setCell (by simp) _).setCell (by simp) _
  · have AV : Aside0 (meantF specs name = one42 (specs.filter (prefP name))) := ⟨by unfold meantF; rw [hfd]⟩
    clear hfd AI
    go_wp2_with (fail)
    go_loopw [7, 30] (fun v7 v30 wr => ∃ k : Nat, v30 = .int .i64 k ∧ k ≤ specs.length ∧ Aside0 (Below w1.heap.size w1 wr) ∧ Aside0 (Kd.R k42 42 wr w1.heap.size (fun _ => True) v7 ((specs.take k).filter (prefP name)))) (fun _ v30 _ => specs.length - (Go.RowKit.intOf v30).toNat)
    case atStart => exact ⟨0, rfl, Nat.zero_le _, ⟨Below.refl _ _⟩, ⟨Kd.R_nil _ _ _ _ _⟩⟩
    case round =>
      clear r0 r1 r2 f0 f1 f2 e0
      obtain ⟨k, rfl, hk, HB, HR⟩ := hrel
      have bsz := HB.out.size
      by_cases hlt : k < specs.length
      · obtain ⟨ad, he, k0, k1, k2⟩ := at_T42 (Kd.C_below AC1.out HB.out) (k : Int) (by omega) (by omega)
        have ex : rd_T42 specs (k : Int) = specs[k] := by unfold rd_T42; simp [hlt]
        rw [ex, Int.toNat_natCast] at k0 k1 k2
        have n1 : (k : Int) < (specs.length : Int) := by omega
        have e2 := pw_cell_below HB.out e1
        have htk : (specs.take (k + 1)).filter (prefP name) = (specs.take k).filter (prefP name) ++ if prefP name specs[k] = true then [specs[k]] else [] := by
          rw [List.take_succ_eq_append_getElem hlt, List.filter_append]
          congr 1
          by_cases hb : prefP name specs[k] = true
          · simp [hb]
          · simp [hb]
        have hfl : ((specs.take k).filter (prefP name)).length ≤ 1000000 := by
          have := List.length_filter_le (prefP name) (specs.take k)
          rw [List.length_take] at this
          omega
        have ATK := Aside0.mk htk
        subst he
        clear htk ex e1
        generalize specs[k] = x at *
        have hP := fun W => Try.strings_HasPrefix x.f1 name W
        have mk := k42_mkM (wr.alloc (Obj.cells #[.int .u8 x.f0, .string x.f1, .bool x.f2] 42)) w1.heap.size (fun _ => False) x
        have e3 := pw_cell_below (below_alloc (Below.refl _ wr) (Obj.cells #[.int .u8 x.f0, .string x.f1, .bool x.f2] 42)) e2
        cases h1 : x.f1.toList.isEmpty
        · have b1 : (x.f1.toList != []) = true := by cases h : x.f1.toList <;> simp_all
          cases h2 : Lib.hasPrefix x.f1.data.toList name.data.toList
          · have hp : prefP name x = false := by unfold prefP beginsB; rw [h1, h2]; rfl
            rw [h2] at hP
            go_wp2_with (go_at_call 25; refine (hP _).mono ?_; rintro e w' ⟨rfl, rfl⟩)
            go_roundw
            case rel => exact ⟨k + 1, by go_num, by omega, ⟨HB.out.alloc bsz _⟩, ⟨by rw [ATK.out, if_neg (by rw [hp]; simp), List.append_nil]; exact Kd.R_alloc HR.out _⟩⟩
            case measure => simp [Go.RowKit.intOf]; omega
          · have hp : prefP name x = true := by unfold prefP beginsB; rw [h1, h2]; rfl
            rw [h2] at hP
            go_wp2_with (first | (go_at_call 25; refine (hP _).mono ?_; rintro e w' ⟨rfl, rfl⟩) | (at_builtin; refine Kd.R_append k42 (w0 := w1) w1.heap.size rfl (.tmp 43) (.tmp 45) 22 42 (.agg #[(.int .u8 0), (.string ⟨#[]⟩), (.bool false)]) 32 rfl Try.underlying22 info42 rfl (by decide) (by omega) u7 ((specs.take k).filter (prefP name)) x [.int .u8 x.f0, .string x.f1, .bool x.f2] (fun _ => True) (fun _ => False) rfl (by first | (go_simp; done) | (go_simp; rfl)) (k42_mkM _ _ _ x) (fun _ hk => hk.elim) (fun _ _ => trivial) (Kd.R_alloc HR.out _) (HB.out.alloc bsz _) (by simp; omega) (by omega) ?_; intro v1 w2 HO1 HB1 hg1 hat1))
            go_roundw
            case rel => exact ⟨k + 1, by go_num, by omega, ⟨HB1⟩, ⟨by rw [ATK.out, if_pos hp]; exact HO1⟩⟩
            case measure => simp [Go.RowKit.intOf]; omega
        · have b1 : x.f1.toList = [] := by simpa using h1
          have hp : prefP name x = false := by unfold prefP; rw [h1]; rfl
          go_wp2_with (fail)
          go_roundw
          case rel => exact ⟨k + 1, by go_num, by omega, ⟨HB.out.alloc bsz _⟩, ⟨by rw [ATK.out, if_neg (by rw [hp]; simp), List.append_nil]; exact Kd.R_alloc HR.out _⟩⟩
          case measure => simp [Go.RowKit.intOf]; omega
      · have e : (specs.take k).filter (prefP name) = specs.filter (prefP name) := by rw [List.take_of_length_le (by omega)]
        have HR2 := HR.out
        rw [e] at HR2
        clear HR e e1
        have AV2 := AV.out
        generalize specs.filter (prefP name) = found at HR2 AV2
        obtain ⟨A, c, rfl, hle, hC⟩ := Kd.R_reads HR2
        have b0 := (HB.out.block _ (blk_lt ABR.out)).trans ABR.out
        have r0 := (blk_cell b0 0).trans rfl
        have r1 := (blk_cell b0 1).trans rfl
        have r2 := (blk_cell b0 2).trans rfl
        have f0 := blk_frozen b0 0
        have f1 := blk_frozen b0 1
        have f2 := blk_frozen b0 2
        have hlt2 := blk_lt ABR.out
        have BW := below_step AB1.out HB.out
        by_cases h1 : found.length = 1
        · obtain ⟨x, rfl⟩ := List.length_eq_one_iff.1 h1
          obtain ⟨ad, rfl, k0, k1, k2⟩ := at_T42 hC 0 (by omega) (by simp)
          have ex : rd_T42 [x] 0 = x := rfl
          have a0 : ad.add (Int.toNat 0 * 3) = ad := by simp [Addr.add]
          rw [ex, a0] at k0 k1 k2
          clear h1 ex a0
          have AV3 := Aside0.mk AV2
          clear AV2
          go_wp2_with (fail)
          have b3 := blk_set (blk_set (blk_set b0 0 (.int .u8 x.f0)) 1 (.string x.f1)) 2 (.bool x.f2)
          have s0 := (blk_cell b3 0).trans rfl
          have s1 := (blk_cell b3 1).trans rfl
          have s2 := (blk_cell b3 2).trans rfl
          refine bodyPost_ret (v := .tuple #[.agg #[.int .u8 x.f0, .string x.f1, .bool x.f2], .bool true]) (by simp [results, Try.results34, go_sem, s0, s1, s2]) rfl ⟨?_, ?_⟩
          · first | rfl | (rw [AV3.out]; rfl)
          · exact ((BW.setCell (by simp) _).setCell (by simp) _).setCell (by simp) _
        · have b4 : ((found.length : Int) != 1) = true := bne_iff_ne.2 (by omega)
          have b5 : ((found.length : Int) == 1) = false := beq_eq_false_iff_ne.2 (by omega)
          have AV3 : Aside0 (one42 found = none) := ⟨by
            match found, h1 with
            | [], _ => rfl
            | [_], h => exact absurd rfl h
            | _ :: _ :: _, _ => rfl⟩
          have AV4 := Aside0.mk AV2
          clear h1 AV2
          go_wp2_with (fail)
          have b3 := blk_set (blk_set (blk_set b0 0 (.int .u8 0)) 1 (.string ⟨#[]⟩)) 2 (.bool false)
          have s0 := (blk_cell b3 0).trans rfl
          have s1 := (blk_cell b3 1).trans rfl
          have s2 := (blk_cell b3 2).trans rfl
          refine bodyPost_ret (v := .tuple #[.agg #[.int .u8 0, .string ⟨#[]⟩, .bool false], .bool false]) (by simp [results, Try.results34, go_sem, s0, s1, s2]) rfl ⟨?_, ?_⟩
          · first | (rw [AV3.out]; rfl) | (rw [AV4.out, AV3.out]; rfl)
          · exact ((BW.setCell (by simp) _).setCell (by simp) _).setCell (by simp) _
end Go.Proofs.Ytljlhknpfnphnaa.QOpts
