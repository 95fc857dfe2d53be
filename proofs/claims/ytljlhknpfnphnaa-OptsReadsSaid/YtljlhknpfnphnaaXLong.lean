/- strings.Cut at '='; the reader's long: an argument with a long name. -/
import Derived.Test.YtljlhknpfnphnaaXMeant
import Derived.IntWalk
namespace Go.Proofs.Ytljlhknpfnphnaa.QOpts
open Go.RowKit Go.Lib Go.Proofs.YtljlhknpfnphnaaW.PrintWords Go.Proofs.YtljlhknpfnphnaaW.PrintLast Go.Proofs.YtljlhknpfnphnaaW.PrintMore
set_option linter.unusedVariables false
set_option linter.unusedSimpArgs false

theorem indexByte_bd (l : List UInt8) (c : UInt8) : -1 ≤ Lib.indexByte l c ∧ Lib.indexByte l c < (l.length : Int) := by
  induction l with
  | nil => simp [Lib.indexByte]
  | cons b l ih =>
    unfold Lib.indexByte
    simp only [List.length_cons]
    split
    · omega
    · split
      · omega
      · omega
/-- Where the '=' stands: -1, nowhere. -/
def eqAt (s : ByteArray) : Int := Lib.indexByte s.data.toList 61
theorem eqAt_bd (s : ByteArray) : -1 ≤ eqAt s ∧ eqAt s < (s.size : Int) := by
  have h := indexByte_bd s.data.toList 61
  have e : s.data.toList.length = s.size := by rw [Array.length_toList]; rfl
  rw [e] at h
  exact h
def cutV (s : ByteArray) : Value := if 0 ≤ eqAt s then .tuple #[.string (s.extract 0 (eqAt s).toNat), .string (s.extract ((eqAt s).toNat + 1) s.size), .bool true] else .tuple #[.string s, .string ⟨#[]⟩, .bool false]
def CutPost (s : ByteArray) (w : World) (e : Ending) (w' : World) : Prop := e = .returned (cutV s) ∧ ∃ n, w' = w.drewN n
set_option maxHeartbeats 1000000 in
theorem cut41 (s : ByteArray) (hs : s.size ≤ 1000000) (w : World) : Calls Try.prog 41 #[.string s, .string ⟨#[61]⟩] w (CutPost s w) := by
  have bd := eqAt_bd s
  have cI := Try.stringslite_Index_one s 61 w
  have he : Lib.indexByte s.data.toList 61 = eqAt s := rfl
  rw [he] at cI
  unfold CutPost cutV
  generalize eqAt s = i at *
  clear he
  by_cases h0 : 0 ≤ i
  · rw [if_pos h0]
    obtain ⟨b1, b2⟩ := bd
    have w1 : IntKind.i64.wrap (i + 1) = i + 1 := by rw [IntKind.wrap_i64]; omega
    have n1 : 0 ≤ i + 1 := by omega
    have n2 : i + 1 ≤ (s.size : Int) := by omega
    have n3 : i ≤ (s.size : Int) := by omega
    have n4 : (i + 1).toNat = i.toNat + 1 := by omega
    go_enter Try.func41, Try.ntmps41
    go_wp2_with (go_at_call 43; refine cI.mono ?_; rintro e w' ⟨rfl, rfl⟩)
    go_quiet (fail)
    go_wp2
    go_ret3
    exact ⟨by first | rfl | simp, _, rfl⟩
  · rw [if_neg h0]
    have b3 : ¬ (0 ≤ i) := h0
    go_enter Try.func41, Try.ntmps41
    go_wp2_with (go_at_call 43; refine cI.mono ?_; rintro e w' ⟨rfl, rfl⟩)
    go_ret3
    exact ⟨rfl, 0, rfl⟩
set_option maxHeartbeats 1000000 in
theorem cut33 (s : ByteArray) (hs : s.size ≤ 1000000) (w : World) : Calls Try.prog 33 #[.string s, .string ⟨#[61]⟩] w (CutPost s w) := by
  have c := cut41 s hs w
  unfold CutPost cutV at c ⊢
  by_cases h0 : 0 ≤ eqAt s
  · rw [if_pos h0] at c ⊢
    clear h0
    go_enter Try.func33, Try.ntmps33
    go_wp2_with (go_at_call 41; refine c.mono ?_; rintro e w' ⟨rfl, n, rfl⟩)
    go_ret3
    exact ⟨rfl, n, rfl⟩
  · rw [if_neg h0] at c ⊢
    clear h0
    go_enter Try.func33, Try.ntmps33
    go_wp2_with (go_at_call 41; refine c.mono ?_; rintro e w' ⟨rfl, n, rfl⟩)
    go_ret3
    exact ⟨rfl, n, rfl⟩
/-- How a taker leaves the reader: the arguments and options that are left, or the argument that is to blame. -/
def Ran (w0 : World) (g : Nat) (specs : List S42) (ps : List ByteArray) (arg : ByteArray) (w' : World) : Option (List ByteArray × List S36) → Prop
  | some (args, os) => St w0 w' g specs args os ps ⟨#[]⟩ 0
  | none => ∃ args os, St w0 w' g specs args os ps arg 10
def RanPost (w0 : World) (g : Nat) (specs : List S42) (ps : List ByteArray) (arg : ByteArray) (r : Option (List ByteArray × List S36)) (e : Ending) (w' : World) : Prop := e = .returned (.tuple #[]) ∧ Ran w0 g specs ps arg w' r
/-- What is behind the two points. -/
def rest2 (arg : ByteArray) : ByteArray := arg.extract 2 arg.size
def nameOf (s : ByteArray) : ByteArray := if 0 ≤ eqAt s then s.extract 0 (eqAt s).toNat else s
def valueOf (s : ByteArray) : ByteArray := if 0 ≤ eqAt s then s.extract ((eqAt s).toNat + 1) s.size else ⟨#[]⟩
def longF (specs : List S42) (arg : ByteArray) (args : List ByteArray) (os : List S36) : Option (List ByteArray × List S36) :=
  match meantF specs (nameOf (rest2 arg)) with
  | none => none
  | some x =>
    if x.f2 = true then
      (if 0 ≤ eqAt (rest2 arg) then some (args, os ++ [⟨x.f0, valueOf (rest2 arg)⟩]) else
        match args with
        | [] => none
        | a :: rest => some (rest, os ++ [⟨x.f0, a⟩]))
    else (if 0 ≤ eqAt (rest2 arg) then none else some (args, os ++ [⟨x.f0, ⟨#[]⟩⟩]))
theorem cutV_eq (s : ByteArray) : cutV s = .tuple #[.string (nameOf s), .string (valueOf s), .bool (decide (0 ≤ eqAt s))] := by
  unfold cutV nameOf valueOf
  by_cases h : 0 ≤ eqAt s <;> simp [h]
theorem meant_some {w0 w : World} {g : Nat} {specs : List S42} {args : List ByteArray} {os : List S36} {ps : List ByteArray} {bad : ByteArray} {e : Int} {x : S42} {name : ByteArray}
    (h : St w0 w g specs args os ps bad e) (hn : specs.length ≤ 1000000) (hm : meantF specs name = some x) :
    Calls Try.prog 34 #[.pointer (some ⟨g, 0, none⟩), .string name] w fun ed w' => ed = .returned (.tuple #[.agg #[.int .u8 x.f0, .string x.f1, .bool x.f2], .bool true]) ∧ Below w.heap.size w w' := by
  have c := meant_calls h hn name
  rw [hm] at c
  exact c
theorem meant_none {w0 w : World} {g : Nat} {specs : List S42} {args : List ByteArray} {os : List S36} {ps : List ByteArray} {bad : ByteArray} {e : Int} {name : ByteArray}
    (h : St w0 w g specs args os ps bad e) (hn : specs.length ≤ 1000000) (hm : meantF specs name = none) :
    Calls Try.prog 34 #[.pointer (some ⟨g, 0, none⟩), .string name] w fun ed w' => ed = .returned (.tuple #[.agg #[.int .u8 0, .string ⟨#[]⟩, .bool false], .bool false]) ∧ Below w.heap.size w w' := by
  have c := meant_calls h hn name
  rw [hm] at c
  exact c
theorem St.lt {w0 w : World} {g : Nat} {specs : List S42} {args : List ByteArray} {os : List S36} {ps : List ByteArray} {bad : ByteArray} {e : Int} (h : St w0 w g specs args os ps bad e) : g < w.heap.size := by
  obtain ⟨As, cs, Aa, ca, vo, vp, h⟩ := h
  exact blk_lt h.blk
theorem gne {w0 w w2 : World} {g : Nat} {specs : List S42} {args : List ByteArray} {os : List S36} {ps : List ByteArray} {bad : ByteArray} {e : Int} (h : St w0 w g specs args os ps bad e) (hb : Below w.heap.size w w2) : w2.heap.size ≠ g := by
  have := h.lt
  have := hb.size
  omega
set_option maxHeartbeats 4000000 in
theorem long_calls {w0 w : World} {g : Nat} {specs : List S42} {args : List ByteArray} {os : List S36} {ps : List ByteArray}
    (h : St w0 w g specs args os ps ⟨#[]⟩ 0) (hn : specs.length ≤ 1000000) (ho : os.length ≤ 1000000) (arg : ByteArray) (ha : arg.size ≤ 1000000) (h2 : 2 ≤ arg.size) :
    Calls Try.prog 26 #[.pointer (some ⟨g, 0, none⟩), .string arg] w (RanPost w0 g specs ps arg (longF specs arg args os)) := by
  have hr : (rest2 arg).size ≤ 1000000 := by unfold rest2; rw [ByteArray.size_extract]; omega
  have cC := fun W => cut33 (rest2 arg) hr W
  unfold CutPost at cC
  rw [cutV_eq] at cC
  have e2 : arg.extract 2 arg.size = rest2 arg := rfl
  have n2 : (2 : Int) ≤ (arg.size : Int) := by omega
  unfold longF
  have A := Aside0.mk h
  clear h hr
  have hval : ¬ (0 ≤ eqAt (rest2 arg)) → valueOf (rest2 arg) = ⟨#[]⟩ := fun hq => by unfold valueOf; rw [if_neg hq]
  generalize rest2 arg = s at *
  generalize nameOf s = name at *
  generalize valueOf s = value at *
  cases hm : meantF specs name with
  | none =>
    show Calls _ _ _ _ (RanPost w0 g specs ps arg none)
    go_enter Try.func26, Try.ntmps26
    go_wp2_with (first | (go_at_call 33; refine (cC _).mono ?_; rintro e w1 ⟨rfl, n, rfl⟩; have S1 := A.out.below (pw_below_drewN (Below.refl _ _) n)) | (go_at_call 34; refine (meant_none S1 hn hm).mono ?_; rintro e w2 ⟨rfl, hb2⟩; have S2 := (S1.below hb2).below (below_alloc (Below.refl _ w2) (Obj.cells #[.int .u8 0, .string ⟨#[]⟩, .bool false] 42))) | (go_at_call 35; refine (fail_calls S2 arg).mono ?_; rintro e w3 ⟨rfl, S3, F3⟩))
    go_end0
    exact ⟨rfl, _, _, S3⟩
  | some x =>
    obtain ⟨xc, xl, xv⟩ := x
    by_cases hq : 0 ≤ eqAt s
    · have hd : decide (0 ≤ eqAt s) = true := decide_eq_true hq
      rw [hd] at cC
      cases xv
      · simp only [hq, if_true, if_false, reduceCtorEq, Bool.false_eq_true]
        show Calls _ _ _ _ (RanPost w0 g specs ps arg none)
        clear hq hd
        go_enter Try.func26, Try.ntmps26
        go_wp2_with (first | (go_at_call 33; refine (cC _).mono ?_; rintro e w1 ⟨rfl, n, rfl⟩; have S1 := A.out.below (pw_below_drewN (Below.refl _ _) n)) | (go_at_call 34; refine (meant_some S1 hn hm).mono ?_; rintro e w2 ⟨rfl, hb2⟩; have S2 := (S1.below hb2).below (below_alloc (Below.refl _ w2) (Obj.cells #[.int .u8 xc, .string xl, .bool false] 42))) | (go_at_call 35; refine (fail_calls S2 arg).mono ?_; rintro e w3 ⟨rfl, S3, F3⟩))
        go_end0
        exact ⟨rfl, _, _, S3⟩
      · simp only [hq, if_true, if_false, reduceCtorEq]
        show Calls _ _ _ _ (RanPost w0 g specs ps arg (some (args, os ++ [⟨xc, value⟩])))
        clear hq hd
        go_enter Try.func26, Try.ntmps26
        go_wp2_with (first | (go_at_call 33; refine (cC _).mono ?_; rintro e w1 ⟨rfl, n, rfl⟩; have S1 := A.out.below (pw_below_drewN (Below.refl _ _) n)) | (go_at_call 34; refine (meant_some S1 hn hm).mono ?_; rintro e w2 ⟨rfl, hb2⟩; have S2 := (S1.below hb2).below (below_alloc (Below.refl _ w2) (Obj.cells #[.int .u8 xc, .string xl, .bool true] 42))) | (go_at_call 37; refine (put_ok S2 ho xc value).mono ?_; rintro e w4 ⟨rfl, S4, F4⟩))
        go_end0
        exact ⟨rfl, S4⟩
    · have hd : decide (0 ≤ eqAt s) = false := decide_eq_false hq
      rw [hd] at cC
      cases xv
      · simp only [hq, if_true, if_false, reduceCtorEq, Bool.false_eq_true]
        show Calls _ _ _ _ (RanPost w0 g specs ps arg (some (args, os ++ [⟨xc, ⟨#[]⟩⟩])))
        have hve : value = ⟨#[]⟩ := hval hq
        clear hq hd
        subst hve
        go_enter Try.func26, Try.ntmps26
        go_wp2_with (first | (go_at_call 33; refine (cC _).mono ?_; rintro e w1 ⟨rfl, n, rfl⟩; have S1 := A.out.below (pw_below_drewN (Below.refl _ _) n)) | (go_at_call 34; refine (meant_some S1 hn hm).mono ?_; rintro e w2 ⟨rfl, hb2⟩; have S2 := (S1.below hb2).below (below_alloc (Below.refl _ w2) (Obj.cells #[.int .u8 xc, .string xl, .bool false] 42))) | (go_at_call 37; refine (put_ok S2 ho xc ⟨#[]⟩).mono ?_; rintro e w4 ⟨rfl, S4, F4⟩))
        go_end0
        exact ⟨rfl, S4⟩
      · simp only [hq, if_true, if_false, reduceCtorEq]
        clear hq hd
        cases args with
        | nil =>
          show Calls _ _ _ _ (RanPost w0 g specs ps arg none)
          go_enter Try.func26, Try.ntmps26
          go_wp2_with (first | (go_at_call 33; refine (cC _).mono ?_; rintro e w1 ⟨rfl, n, rfl⟩; have S1 := A.out.below (pw_below_drewN (Below.refl _ _) n)) | (go_at_call 34; refine (meant_some S1 hn hm).mono ?_; rintro e w2 ⟨rfl, hb2⟩; have S2 := (S1.below hb2).below (below_alloc (Below.refl _ w2) (Obj.cells #[.int .u8 xc, .string xl, .bool true] 42))) | (go_at_call 36; refine (next_none S2 arg).mono ?_; rintro e w3 ⟨rfl, S3, F3⟩; have k0 := (blk_cell (F3 _ _ _ (gne S1 hb2) (by decide) (heap_alloc_new w2 (Obj.cells #[.int .u8 xc, .string xl, .bool true] 42))) 0).trans rfl) | (go_at_call 37; refine (put_bad S3 (by decide) xc ⟨#[]⟩).mono ?_; rintro e w4 ⟨rfl, S4, F4⟩))
          go_end0
          exact ⟨rfl, _, _, S4⟩
        | cons a args =>
          show Calls _ _ _ _ (RanPost w0 g specs ps arg (some (args, os ++ [⟨xc, a⟩])))
          go_enter Try.func26, Try.ntmps26
          go_wp2_with (first | (go_at_call 33; refine (cC _).mono ?_; rintro e w1 ⟨rfl, n, rfl⟩; have S1 := A.out.below (pw_below_drewN (Below.refl _ _) n)) | (go_at_call 34; refine (meant_some S1 hn hm).mono ?_; rintro e w2 ⟨rfl, hb2⟩; have S2 := (S1.below hb2).below (below_alloc (Below.refl _ w2) (Obj.cells #[.int .u8 xc, .string xl, .bool true] 42))) | (go_at_call 36; refine (next_some S2 arg).mono ?_; rintro e w3 ⟨rfl, S3, F3⟩; have k0 := (blk_cell (F3 _ _ _ (gne S1 hb2) (by decide) (heap_alloc_new w2 (Obj.cells #[.int .u8 xc, .string xl, .bool true] 42))) 0).trans rfl) | (go_at_call 37; refine (put_ok S3 ho xc a).mono ?_; rintro e w4 ⟨rfl, S4, F4⟩))
          go_end0
          exact ⟨rfl, S4⟩
end Go.Proofs.Ytljlhknpfnphnaa.QOpts
