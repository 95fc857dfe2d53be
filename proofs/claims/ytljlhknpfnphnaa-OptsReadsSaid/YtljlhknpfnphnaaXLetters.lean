/- The reader's letters: an argument of letters. -/
import Derived.Test.YtljlhknpfnphnaaXLong
namespace Go.Proofs.Ytljlhknpfnphnaa.QOpts
open Go.RowKit Go.Lib Go.Proofs.YtljlhknpfnphnaaW.PrintWords Go.Proofs.YtljlhknpfnphnaaW.PrintLast Go.Proofs.YtljlhknpfnphnaaW.PrintMore
set_option linter.unusedVariables false
set_option linter.unusedSimpArgs false

/-- An argument of letters, from a place on. -/
def lettersF (specs : List S42) (arg : ByteArray) : Nat → Nat → List ByteArray → List S36 → Option (List ByteArray × List S36)
  | 0, _, args, os => some (args, os)
  | m + 1, i, args, os =>
    if i < arg.size then
      match specs.find? (letterP (bt arg (i : Int))) with
      | none => none
      | some x =>
        if x.f2 = true then
          (if i + 1 < arg.size then some (args, os ++ [⟨bt arg (i : Int), arg.extract (i + 1) arg.size⟩]) else
            match args with
            | [] => none
            | a :: rest => some (rest, os ++ [⟨bt arg (i : Int), a⟩]))
        else lettersF specs arg m (i + 1) args (os ++ [⟨bt arg (i : Int), ⟨#[]⟩⟩])
    else some (args, os)
def LRel (w0 : World) (g : Nat) (specs : List S42) (ps : List ByteArray) (arg : ByteArray) (R : Option (List ByteArray × List S36)) (i : Nat) (wr : World) : Prop :=
  (∃ m args os, arg.size - i ≤ m ∧ St w0 wr g specs args os ps ⟨#[]⟩ 0 ∧ lettersF specs arg m i args os = R ∧ os.length + (arg.size - i) ≤ 1000000) ∨ (i = arg.size ∧ Ran w0 g specs ps arg wr R)
set_option maxHeartbeats 8000000 in
set_option maxRecDepth 100000 in
theorem letters_calls {w0 w : World} {g : Nat} {specs : List S42} {args : List ByteArray} {os : List S36} {ps : List ByteArray}
    (h : St w0 w g specs args os ps ⟨#[]⟩ 0) (hn : specs.length ≤ 1000000) (arg : ByteArray) (ha : arg.size ≤ 1000000) (h1 : 1 ≤ arg.size) (ho : os.length + (arg.size - 1) ≤ 1000000) (R : Option (List ByteArray × List S36)) (hR0 : lettersF specs arg arg.size 1 args os = R) :
    Calls Try.prog 27 #[.pointer (some ⟨g, 0, none⟩), .string arg] w (RanPost w0 g specs ps arg R) := by
  have hlt := h.lt
  have S0 := (h.below (below_alloc (Below.refl _ w) (Obj.cells #[.string arg] 9))).below (below_alloc (Below.refl _ _) (Obj.cells #[.int .i64 1] 3))
  have A := Aside0.mk S0
  have AH := Aside0.mk hlt
  have AO := Aside0.mk ho
  have AR0 := Aside0.mk hR0
  have bA : ((w.alloc (Obj.cells #[.string arg] 9)).alloc (Obj.cells #[.int .i64 1] 3)).heap[w.heap.size]? = some (.cells #[.string arg] 9 (0, 0)) := (Below.heap_alloc _ _ _ (by simp)).trans (heap_alloc_new w _)
  have bI : ((w.alloc (Obj.cells #[.string arg] 9)).alloc (Obj.cells #[.int .i64 1] 3)).heap[w.heap.size + 1]? = some (.cells #[.int .i64 1] 3 (0, 0)) := by
    have := heap_alloc_new (w.alloc (Obj.cells #[.string arg] 9)) (Obj.cells #[.int .i64 1] 3)
    rw [World.size_alloc] at this
    exact this
  have AbA := Aside0.mk bA
  have AbI := Aside0.mk bI
  clear S0 h bA bI hlt ho hR0
  go_enter Try.func27, Try.ntmps27
  go_wp2_with (fail)
  go_loopw [4] (fun v4 wr => ∃ i gi : Nat, v4 = .pointer (some ⟨gi, 0, none⟩) ∧ i ≤ arg.size ∧ Aside0 (gi ≠ g) ∧ Aside0 (wr.heap[gi]? = some (.cells #[.int .i64 (i : Int)] 3 (0, 0))) ∧ Aside0 (wr.heap[w.heap.size]? = some (.cells #[.string arg] 9 (0, 0))) ∧ Aside0 (LRel w0 g specs ps arg R i wr))
    (fun v4 wr => arg.size - (match v4 with | .pointer (some a) => (match wr.cell? a with | some v => (Go.RowKit.intOf v).toNat | none => 0) | _ => 0))
  case atStart => exact ⟨1, w.heap.size + 1, rfl, h1, ⟨by have := AH.out; omega⟩, AbI, AbA, ⟨.inl ⟨arg.size, args, os, by omega, A.out, AR0.out, by have := AO.out; omega⟩⟩⟩
  case round =>
    clear A AbI AbA AO AR0
    obtain ⟨i, gi, rfl, hi, hgi, bI, bA, HL⟩ := hrel
    have cA := (blk_cell bA.out 0).trans rfl
    have cI := (blk_cell bI.out 0).trans rfl
    by_cases hlt : i < arg.size
    · rcases HL.out with ⟨m, args', os', hm, S, hR, hos⟩ | ⟨he, _⟩
      · cases m with
        | zero => omega
        | succ m =>
        unfold lettersF at hR
        rw [if_pos hlt] at hR
        have AS := Aside0.mk S
        obtain ⟨As, cs, Aa, ca, vo, vp, h⟩ := S
        have c0 := h.cell 0 _ rfl
        have c5 := h.cell 5 _ rfl
        have hC : Kd.C k42 wr As specs.length specs := Kd.C_below h.hs h.bel
        have hsc := h.hsc
        have hmx := Kd.C_max hC
        have cF := indexFunc_spec 39 #[.pointer (some ⟨w.heap.size, 0, none⟩), .pointer (some ⟨gi, 0, none⟩)] (letterP (bt arg (i : Int))) wr As cs specs hC hsc (enters_of Try.func39 (by kernel_rfl) rfl)
          (fun x W hb => closure39 w.heap.size gi arg (i : Int) x W (pw_cell_below hb cA) (pw_cell_below hb cI) (by omega) (by omega))
        have AC := Aside0.mk hC
        have A5 := Aside0.mk hos
        clear h HL hC hos hi
        have n1 : (i : Int) < (arg.size : Int) := by omega
        go_upto_region 5 with (go_at_call 38; refine cF.mono ?_; rintro e w1 ⟨r, rfl, hix, hb1⟩)
        have S1 := AS.out.below hb1
        have bA1 := (hb1.block _ (blk_lt bA.out)).trans bA.out
        have bI1 := (hb1.block _ (blk_lt bI.out)).trans bI.out
        have AbA1 := Aside0.mk bA1
        have AbI1 := Aside0.mk bI1
        have cA1 := (blk_cell bA1 0).trans rfl
        have cI1 := (blk_cell bI1 0).trans rfl
        have c01 := pw_cell_below hb1 c0
        have AC1 := Aside0.mk (Kd.C_below AC.out hb1)
        have AI := Aside0.mk hix.find
        have AS1 := Aside0.mk S1
        have AhR := Aside0.mk hR
        clear bA1 bI1 c0 c5 cA cI hix S1 hR cF hb1 bA AC AS
        rcases AI.out with ⟨k, hk, rfl, hfd⟩ | ⟨rfl, hfd⟩
        · obtain ⟨ad, he, k0, k1, k2⟩ := at_T42 AC1.out (k : Int) (by omega) (by omega)
          have ex : rd_T42 specs (k : Int) = specs[k] := by unfold rd_T42; simp [hk]
          rw [ex, Int.toNat_natCast] at k0 k1 k2
          have m0 : (0 : Int) ≤ (k : Int) := by omega
          have m1 : (k : Int) < (specs.length : Int) := by omega
          subst he
          have hR := AhR.out
          rw [hfd] at hR
          clear AI hfd AhR ex
          generalize specs[k] = x at *
          cases hv : x.f2
          · simp only [hv, if_false, Bool.false_eq_true] at hR
            have AhR := Aside0.mk hR
            rw [hv] at k2
            clear hR hv
            have hol : os'.length ≤ 1000000 := by have := A5.out; omega
            have hx : ((arg[i]'hlt).toNat : Int) = bt arg (i : Int) := bt_at arg (i : Int) hlt
            go_wp2_with (go_at_call 37; refine (put_ok AS1.out hol (bt arg (i : Int)) ⟨#[]⟩).mono ?_; rintro e w2 ⟨rfl, S2, F2⟩; have bA2 := F2 _ _ _ (show w.heap.size ≠ g by have := AH.out; omega) (by decide) AbA1.out; have bI2 := F2 _ _ _ hgi.out (by decide) AbI1.out; have cI2 := (blk_cell bI2 0).trans rfl)
            go_roundw
            case rel => exact ⟨i + 1, w2.heap.size, rfl, by omega, ⟨by have := S2.lt; omega⟩, ⟨by rw [show (((i + 1 : Nat)) : Int) = (i : Int) + 1 from by omega]; exact heap_alloc_new _ _⟩, ⟨(Below.heap_alloc w2 _ _ (blk_lt bA2)).trans bA2⟩,
              ⟨.inl ⟨m, args', os' ++ [⟨bt arg (i : Int), ⟨#[]⟩⟩], by omega, S2.below (below_alloc (Below.refl _ _) _), AhR.out, by have := A5.out; simp; omega⟩⟩⟩
            case measure =>
              have e1 : wr.cell? ⟨gi, 0, none⟩ = some (.int .i64 (i : Int)) := (blk_cell bI.out 0).trans rfl
              have e2 : (w2.alloc (Obj.cells #[.int .i64 ((i : Int) + 1)] 3)).cell? ⟨w2.heap.size, 0, none⟩ = some (.int .i64 ((i : Int) + 1)) := (blk_cell (heap_alloc_new w2 (Obj.cells #[.int .i64 ((i : Int) + 1)] 3)) 0).trans rfl
              simp only [e1, e2, Go.RowKit.intOf]
              omega
          · have n2 : (0 : Int) ≤ (i : Int) := by omega
            simp only [hv, if_true] at hR
            rw [hv] at k2
            have hol : os'.length ≤ 1000000 := by have := A5.out; omega
            have hx : ((arg[i]'hlt).toNat : Int) = bt arg (i : Int) := bt_at arg (i : Int) hlt
            have w1i : IntKind.i64.wrap ((i : Int) + 1) = (i : Int) + 1 := by rw [IntKind.wrap_i64]; omega
            by_cases hl1 : i + 1 < arg.size
            · rw [if_pos hl1] at hR
              have AhR := Aside0.mk hR
              have n3 : (i : Int) + 1 < (arg.size : Int) := by omega
              have n4 : (i : Int) + 1 ≤ (arg.size : Int) := by omega
              have n5 : 0 ≤ (i : Int) + 1 := by omega
              have n6 : ((i : Int) + 1).toNat = i + 1 := by omega
              have S1d := AS1.out.drew
              clear hR
              go_wp2_with (fail)
              go_region_held3 (fun w' => w'.cell? ⟨w.heap.size, 0, none⟩ = some (.string arg) ∧ w'.cell? ⟨gi, 0, none⟩ = some (.int .i64 (i : Int)))
                (first | (refine ⟨?_, ?_⟩ <;> assumption) | exact ⟨(blk_cell (F2 _ _ _ (show w.heap.size ≠ g by have := AH.out; omega) (by decide) AbA1.out) 0).trans rfl, (blk_cell (F2 _ _ _ hgi.out (by decide) AbI1.out) 0).trans rfl⟩)
                ((go_simp; go_at_call 37; refine (put_ok S1d hol (bt arg (i : Int)) (arg.extract (i + 1) arg.size)).mono ?_; rintro e w2 ⟨rfl, S2, F2⟩))
              go_wp2_with (fail)
              go_end0
              refine ⟨rfl, ?_⟩
              have hR := AhR.out
              subst hR
              exact S2
            · rw [if_neg hl1] at hR
              have n3 : decide ((i : Int) + 1 < (arg.size : Int)) = false := decide_eq_false (by omega)
              have n4 : ¬ ((i : Int) + 1 < (arg.size : Int)) := by omega
              cases args' with
              | nil =>
                have AhR : Aside0 (none = R) := ⟨hR⟩
                have S1d := AS1.out.drew
                clear hR
                go_wp2_with (fail)
                go_region_held3 (fun w' => w'.cell? ⟨w.heap.size, 0, none⟩ = some (.string arg) ∧ w'.cell? ⟨gi, 0, none⟩ = some (.int .i64 (i : Int)))
                  (first | (refine ⟨?_, ?_⟩ <;> assumption) | exact ⟨(blk_cell (F2 _ _ _ (show w.heap.size ≠ g by have := AH.out; omega) (by decide) AbA1.out) 0).trans rfl, (blk_cell (F2 _ _ _ hgi.out (by decide) AbI1.out) 0).trans rfl⟩ | exact ⟨(blk_cell (F3 _ _ _ (show w.heap.size ≠ g by have := AH.out; omega) (by decide) (F2 _ _ _ (show w.heap.size ≠ g by have := AH.out; omega) (by decide) AbA1.out)) 0).trans rfl, (blk_cell (F3 _ _ _ hgi.out (by decide) (F2 _ _ _ hgi.out (by decide) AbI1.out)) 0).trans rfl⟩)
                  ((go_simp; first | (go_at_call 36; refine (next_none S1d arg).mono ?_; rintro e w2 ⟨rfl, S2, F2⟩) | (go_at_call 37; refine (put_bad S2 (by decide) (bt arg (i : Int)) ⟨#[]⟩).mono ?_; rintro e w3 ⟨rfl, S3, F3⟩)))
                go_wp2_with (fail)
                all_goals (
                  have bA3 := F3 _ _ _ (show w.heap.size ≠ g by have := AH.out; omega) (by decide) (F2 _ _ _ (show w.heap.size ≠ g by have := AH.out; omega) (by decide) AbA1.out)
                  have bI3 := F3 _ _ _ hgi.out (by decide) (F2 _ _ _ hgi.out (by decide) AbI1.out)
                  have cI3 : w3.cell? ⟨gi, 0, none⟩ = some (.int .i64 (i : Int)) := (blk_cell bI3 0).trans rfl
                  go_roundw
                  case rel => exact ⟨i + 1, w3.heap.size, rfl, by omega, ⟨by have := S3.lt; omega⟩, ⟨by rw [show (((i + 1 : Nat)) : Int) = (i : Int) + 1 from by omega]; exact heap_alloc_new _ _⟩, ⟨(Below.heap_alloc w3 _ _ (blk_lt bA3)).trans bA3⟩, ⟨.inr ⟨by omega, by rw [← AhR.out]; exact ⟨_, _, S3.below (below_alloc (Below.refl _ _) _)⟩⟩⟩⟩
                  case measure =>
                    have e1 : wr.cell? ⟨gi, 0, none⟩ = some (.int .i64 (i : Int)) := (blk_cell bI.out 0).trans rfl
                    have e2 : (w3.alloc (Obj.cells #[.int .i64 ((i : Int) + 1)] 3)).cell? ⟨w3.heap.size, 0, none⟩ = some (.int .i64 ((i : Int) + 1)) := (blk_cell (heap_alloc_new w3 (Obj.cells #[.int .i64 ((i : Int) + 1)] 3)) 0).trans rfl
                    simp only [e1, e2, Go.RowKit.intOf]
                    omega)
              | cons a args' =>
                have AhR : Aside0 (some (args', os' ++ [⟨bt arg (i : Int), a⟩]) = R) := ⟨hR⟩
                have S1d := AS1.out.drew
                clear hR
                go_wp2_with (fail)
                go_region_held3 (fun w' => w'.cell? ⟨w.heap.size, 0, none⟩ = some (.string arg) ∧ w'.cell? ⟨gi, 0, none⟩ = some (.int .i64 (i : Int)))
                  (first | (refine ⟨?_, ?_⟩ <;> assumption) | exact ⟨(blk_cell (F2 _ _ _ (show w.heap.size ≠ g by have := AH.out; omega) (by decide) AbA1.out) 0).trans rfl, (blk_cell (F2 _ _ _ hgi.out (by decide) AbI1.out) 0).trans rfl⟩ | exact ⟨(blk_cell (F3 _ _ _ (show w.heap.size ≠ g by have := AH.out; omega) (by decide) (F2 _ _ _ (show w.heap.size ≠ g by have := AH.out; omega) (by decide) AbA1.out)) 0).trans rfl, (blk_cell (F3 _ _ _ hgi.out (by decide) (F2 _ _ _ hgi.out (by decide) AbI1.out)) 0).trans rfl⟩)
                  ((go_simp; first | (go_at_call 36; refine (next_some S1d arg).mono ?_; rintro e w2 ⟨rfl, S2, F2⟩) | (go_at_call 37; refine (put_ok S2 hol (bt arg (i : Int)) a).mono ?_; rintro e w3 ⟨rfl, S3, F3⟩)))
                go_wp2_with (fail)
                all_goals (
                  have bA3 := F3 _ _ _ (show w.heap.size ≠ g by have := AH.out; omega) (by decide) (F2 _ _ _ (show w.heap.size ≠ g by have := AH.out; omega) (by decide) AbA1.out)
                  have bI3 := F3 _ _ _ hgi.out (by decide) (F2 _ _ _ hgi.out (by decide) AbI1.out)
                  have cI3 : w3.cell? ⟨gi, 0, none⟩ = some (.int .i64 (i : Int)) := (blk_cell bI3 0).trans rfl
                  go_roundw
                  case rel => exact ⟨i + 1, w3.heap.size, rfl, by omega, ⟨by have := S3.lt; omega⟩, ⟨by rw [show (((i + 1 : Nat)) : Int) = (i : Int) + 1 from by omega]; exact heap_alloc_new _ _⟩, ⟨(Below.heap_alloc w3 _ _ (blk_lt bA3)).trans bA3⟩, ⟨.inr ⟨by omega, by rw [← AhR.out]; exact S3.below (below_alloc (Below.refl _ _) _)⟩⟩⟩
                  case measure =>
                    have e1 : wr.cell? ⟨gi, 0, none⟩ = some (.int .i64 (i : Int)) := (blk_cell bI.out 0).trans rfl
                    have e2 : (w3.alloc (Obj.cells #[.int .i64 ((i : Int) + 1)] 3)).cell? ⟨w3.heap.size, 0, none⟩ = some (.int .i64 ((i : Int) + 1)) := (blk_cell (heap_alloc_new w3 (Obj.cells #[.int .i64 ((i : Int) + 1)] 3)) 0).trans rfl
                    simp only [e1, e2, Go.RowKit.intOf]
                    omega)
        · have hR := AhR.out
          rw [hfd] at hR
          obtain rfl : none = R := hR
          clear AI hfd AhR
          go_wp2_with (go_at_call 35; refine (fail_calls AS1.out arg).mono ?_; rintro e w2 ⟨rfl, S2, F2⟩)
          go_end0
          exact ⟨rfl, _, _, S2⟩
      · omega
    · have hr : Ran w0 g specs ps arg wr R := by
        rcases HL.out with ⟨m, args', os', hm, S, hR, hos⟩ | ⟨_, hr⟩
        · cases m with
          | zero => obtain rfl : some (args', os') = R := hR; exact S
          | succ m => unfold lettersF at hR; rw [if_neg hlt] at hR; subst hR; exact S
        · exact hr
      have AR := Aside0.mk hr
      clear hr HL
      go_wp2_with (fail)
      go_end0
      exact ⟨rfl, AR.out⟩
end Go.Proofs.Ytljlhknpfnphnaa.QOpts
