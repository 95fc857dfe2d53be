/- opts.Read: the walk. -/
import Derived.Test.YtljlhknpfnphnaaXTake
import Derived.Lib.Bytes2
import Derived.StillTailTactics
namespace Go.Proofs.Ytljlhknpfnphnaa.QOpts
open Go.RowKit Go.Lib Go.Proofs.YtljlhknpfnphnaaW.PrintWords Go.Proofs.YtljlhknpfnphnaaW.PrintLast Go.Proofs.YtljlhknpfnphnaaW.PrintMore
set_option linter.unusedVariables false
set_option linter.unusedSimpArgs false

/-- What a long name or letters do. -/
def takeF (specs : List S42) (a : ByteArray) (rest : List ByteArray) (os : List S36) : Option (List ByteArray × List S36) :=
  if kindOf a = 26 then longF specs a rest os else lettersF specs a a.size 1 rest os
/-- Arguments read. -/
def readF (specs : List S42) : Nat → List ByteArray → List S36 → List ByteArray → List S36 × List ByteArray × ByteArray × Int
  | 0, _, os, ps => (os, ps, ⟨#[]⟩, 0)
  | _ + 1, [], os, ps => (os, ps, ⟨#[]⟩, 0)
  | m + 1, a :: rest, os, ps =>
    if a.toList = [45, 45] then (os, ps ++ rest, ⟨#[]⟩, 0) else
    if kindOf a = 28 then readF specs m rest os (ps ++ [a]) else
    match takeF specs a rest os with
    | none => ([], [], a, 10)
    | some (rest', os') => readF specs m rest' os' ps
theorem letters_less {specs : List S42} {arg : ByteArray} : ∀ (m i : Nat) (args : List ByteArray) (os : List S36) (args' : List ByteArray) (os' : List S36), lettersF specs arg m i args os = some (args', os') →
    args' <:+ args ∧ os'.length ≤ os.length + (arg.size - i)
  | 0, i, args, os, args', os', h => by
    simp only [lettersF, Option.some.injEq, Prod.mk.injEq] at h
    obtain ⟨rfl, rfl⟩ := h
    exact ⟨List.suffix_refl _, by omega⟩
  | m + 1, i, args, os, args', os', h => by
    unfold lettersF at h
    split at h
    · rename_i hi
      split at h
      · cases h
      · split at h
        · split at h
          · simp only [Option.some.injEq, Prod.mk.injEq] at h
            obtain ⟨rfl, rfl⟩ := h
            exact ⟨List.suffix_refl _, by simp; omega⟩
          · split at h
            · cases h
            · simp only [Option.some.injEq, Prod.mk.injEq] at h
              obtain ⟨rfl, rfl⟩ := h
              exact ⟨List.suffix_cons _ _, by simp; omega⟩
        · obtain ⟨h1, h2⟩ := letters_less m (i + 1) args _ args' os' h
          refine ⟨h1, ?_⟩
          simp at h2
          omega
    · simp only [Option.some.injEq, Prod.mk.injEq] at h
      obtain ⟨rfl, rfl⟩ := h
      exact ⟨List.suffix_refl _, by omega⟩
theorem long_less {specs : List S42} {arg : ByteArray} {args args' : List ByteArray} {os os' : List S36} (h : longF specs arg args os = some (args', os')) : args' <:+ args ∧ os'.length ≤ os.length + 1 := by
  unfold longF at h
  split at h
  · cases h
  · split at h
    · split at h
      · simp only [Option.some.injEq, Prod.mk.injEq] at h
        obtain ⟨rfl, rfl⟩ := h
        exact ⟨List.suffix_refl _, by simp⟩
      · split at h
        · cases h
        · simp only [Option.some.injEq, Prod.mk.injEq] at h
          obtain ⟨rfl, rfl⟩ := h
          exact ⟨List.suffix_cons _ _, by simp⟩
    · split at h
      · cases h
      · simp only [Option.some.injEq, Prod.mk.injEq] at h
        obtain ⟨rfl, rfl⟩ := h
        exact ⟨List.suffix_refl _, by simp⟩
theorem take_less {specs : List S42} {arg : ByteArray} {args args' : List ByteArray} {os os' : List S36} (ha : arg.size ≤ 1000) (h : takeF specs arg args os = some (args', os')) : args' <:+ args ∧ os'.length ≤ os.length + 1000 := by
  unfold takeF at h
  split at h
  · obtain ⟨h1, h2⟩ := long_less h
    exact ⟨h1, by omega⟩
  · obtain ⟨h1, h2⟩ := letters_less _ _ _ _ _ _ h
    exact ⟨h1, by omega⟩
theorem kindOf_long {arg : ByteArray} (h : kindOf arg = 26) : 2 ≤ arg.size := by
  unfold kindOf at h
  split at h
  · rename_i hb
    have h2 := Lib.hasPrefix_le (show Lib.hasPrefix arg.data.toList (⟨#[45, 45]⟩ : ByteArray).data.toList = true from hb)
    rw [Array.length_toList] at h2
    exact h2
  · split at h <;> cases h
theorem kindOf_letters {arg : ByteArray} (h : kindOf arg = 27) : 1 ≤ arg.size := by
  unfold kindOf at h
  split at h
  · cases h
  · split at h
    · rename_i h1
      omega
    · cases h
theorem kindOf_cases (arg : ByteArray) : kindOf arg = 26 ∨ kindOf arg = 27 ∨ kindOf arg = 28 := by
  unfold kindOf
  split
  · exact .inl rfl
  · split
    · exact .inr (.inl rfl)
    · exact .inr (.inr rfl)
/-- What is read stays small. -/
def Small (args : List ByteArray) (os : List S36) (ps : List ByteArray) : Prop := (∀ a ∈ args, a.size ≤ 1000) ∧ os.length + 1000 * args.length ≤ 1000000 ∧ ps.length + args.length ≤ 1000000
theorem Small.take {specs : List S42} {a : ByteArray} {args args' : List ByteArray} {os os' : List S36} {ps : List ByteArray} (h : Small (a :: args) os ps) (ht : takeF specs a args os = some (args', os')) : Small args' os' ps ∧ args'.length ≤ args.length := by
  obtain ⟨h1, h2, h3⟩ := h
  obtain ⟨hs, ho⟩ := take_less (h1 a (by simp)) ht
  have hl := hs.length_le
  simp only [List.length_cons] at h2 h3
  exact ⟨⟨fun x hx => h1 x (List.mem_cons_of_mem _ (hs.subset hx)), by omega, by omega⟩, hl⟩
theorem Small.oper {a : ByteArray} {args : List ByteArray} {os : List S36} {ps : List ByteArray} (h : Small (a :: args) os ps) : Small args os (ps ++ [a]) := by
  obtain ⟨h1, h2, h3⟩ := h
  simp only [List.length_cons] at h2 h3
  exact ⟨fun x hx => h1 x (List.mem_cons_of_mem _ hx), by omega, by simp; omega⟩
/-- Where the reader stands: on its way, or with an argument to blame. -/
def RRel (w0 : World) (g : Nat) (specs : List S42) (R : List S36 × List ByteArray × ByteArray × Int) (wr : World) : Prop :=
  (∃ m args os ps, args.length ≤ m ∧ St w0 wr g specs args os ps ⟨#[]⟩ 0 ∧ readF specs m args os ps = R ∧ Small args os ps) ∨ (∃ args os ps bad, St w0 wr g specs args os ps bad 10 ∧ R = ([], [], bad, 10))
def ReadPost (R : List S36 × List ByteArray × ByteArray × Int) (w : World) (e : Ending) (w' : World) : Prop :=
  ∃ v0 v1, e = .returned (.tuple #[v0, v1, .string R.2.2.1, .int .i64 R.2.2.2]) ∧ Kd.R k36 36 w' w.heap.size (fun _ => True) v0 R.1 ∧ Kd.R Kd.string 9 w' w.heap.size (fun _ => True) v1 R.2.1 ∧ Below w.heap.size w w'
/-- What a round makes smaller. -/
def left (g : Nat) (w : World) : Nat :=
  match w.cell? ⟨g, 5, none⟩ with
  | some (.int .i64 e) => if e = 0 then (match w.cell? ⟨g, 1, none⟩ with | some (.slice _ n _) => n + 1 | _ => 0) else 0
  | _ => 0
theorem St.left {w0 w : World} {g : Nat} {specs : List S42} {args : List ByteArray} {os : List S36} {ps : List ByteArray} {bad : ByteArray} {e : Int} (h : St w0 w g specs args os ps bad e) : QOpts.left g w = if e = 0 then args.length + 1 else 0 := by
  obtain ⟨As, cs, Aa, ca, vo, vp, h⟩ := h
  unfold QOpts.left
  rw [h.cell 5 _ rfl, h.cell 1 _ rfl]
  rfl
theorem readF_take {specs : List S42} {m : Nat} {a : ByteArray} {rest : List ByteArray} {os : List S36} {ps : List ByteArray} (ha : ¬ a.toList = [45, 45]) (hk : kindOf a ≠ 28) :
    readF specs (m + 1) (a :: rest) os ps = match takeF specs a rest os with | none => ([], [], a, 10) | some (rest', os') => readF specs m rest' os' ps := by
  conv => lhs; unfold readF
  rw [if_neg ha, if_neg hk]
theorem RRel.taken {w0 w : World} {g : Nat} {specs : List S42} {R : List S36 × List ByteArray × ByteArray × Int} {m : Nat} {a : ByteArray} {rest : List ByteArray} {os : List S36} {ps : List ByteArray}
    (h : Ran w0 g specs ps a w (takeF specs a rest os)) (ha : ¬ a.toList = [45, 45]) (hk : kindOf a ≠ 28) (hS : Small (a :: rest) os ps) (hm : rest.length ≤ m) (hR : readF specs (m + 1) (a :: rest) os ps = R) :
    RRel w0 g specs R w ∧ QOpts.left g w < rest.length + 2 := by
  rw [readF_take ha hk] at hR
  cases hT : takeF specs a rest os with
  | none =>
    rw [hT] at h hR
    obtain ⟨args', os', S⟩ := h
    exact ⟨.inr ⟨_, _, _, _, S, hR.symm⟩, by rw [S.left, if_neg (by decide)]; omega⟩
  | some p =>
    obtain ⟨rest', os'⟩ := p
    rw [hT] at h hR
    have S : St w0 w g specs rest' os' ps ⟨#[]⟩ 0 := h
    obtain ⟨hS', hl⟩ := hS.take hT
    exact ⟨.inl ⟨m, rest', os', ps, by omega, S, hR, hS'⟩, by rw [S.left, if_pos rfl]; omega⟩
theorem RRel.opered {w0 w : World} {g : Nat} {specs : List S42} {R : List S36 × List ByteArray × ByteArray × Int} {m : Nat} {a : ByteArray} {rest : List ByteArray} {os : List S36} {ps : List ByteArray}
    (S : St w0 w g specs rest os (ps ++ [a]) ⟨#[]⟩ 0) (ha : ¬ a.toList = [45, 45]) (hk : kindOf a = 28) (hS : Small (a :: rest) os ps) (hm : rest.length ≤ m) (hR : readF specs (m + 1) (a :: rest) os ps = R) :
    RRel w0 g specs R w ∧ QOpts.left g w < rest.length + 2 := by
  have e : readF specs (m + 1) (a :: rest) os ps = readF specs m rest os (ps ++ [a]) := by
    conv => lhs; unfold readF
    rw [if_neg ha, if_pos hk]
  rw [e] at hR
  exact ⟨.inl ⟨m, rest, os, ps ++ [a], hm, S, hR, hS.oper⟩, by rw [S.left, if_pos rfl]; omega⟩
theorem St.drewN {w0 w : World} {g : Nat} {specs : List S42} {args : List ByteArray} {os : List S36} {ps : List ByteArray} {bad : ByteArray} {e : Int} (h : St w0 w g specs args os ps bad e) (n : Nat) : St w0 (w.drewN n) g specs args os ps bad e :=
  h.below (pw_below_drewN (Below.refl _ _) n)
set_option maxHeartbeats 8000000 in
set_option maxRecDepth 100000 in
theorem read_calls (A0 : Option Addr) (c0 : Nat) (specs : List S42) (A1 : Option Addr) (c1 : Nat) (args : List ByteArray) (w : World) (h0 : Kd.C k42 w A0 specs.length specs) (hc0 : specs.length ≤ c0) (h1 : Kd.C Kd.string w A1 args.length args) (hc1 : args.length ≤ c1)
    (hn : specs.length ≤ 1000000) (hs : Small args [] []) (R : List S36 × List ByteArray × ByteArray × Int) (hR : readF specs args.length args [] [] = R) :
    Calls Try.prog 9 #[.slice A0 specs.length c0, .slice A1 args.length c1] w (ReadPost R w) := by
  have bW := below_alloc (Below.refl w.heap.size w) (Obj.cells #[.slice A0 specs.length c0, .slice A1 args.length c1, .slice none 0 0, .slice none 0 0, .string ⟨#[]⟩, .int .i64 0] 45)
  have S0 : St w (w.alloc (Obj.cells #[.slice A0 specs.length c0, .slice A1 args.length c1, .slice none 0 0, .slice none 0 0, .string ⟨#[]⟩, .int .i64 0] 45)) w.heap.size specs args [] [] ⟨#[]⟩ 0 :=
    ⟨A0, c0, A1, c1, _, _, bW, Nat.le_refl _, heap_alloc_new w _, h0, hc0, h1, hc1, Kd.R_nil _ _ _ _ _, Kd.R_nil _ _ _ _ _⟩
  have A := Aside0.mk S0
  have AS := Aside0.mk hs
  have AR := Aside0.mk hR
  clear S0 bW h0 h1 hs hR hc0 hc1
  go_enter Try.func9, Try.ntmps9
  go_wp2_with (fail)
  go_loopw [9] (fun _ wr => Aside0 (RRel w w.heap.size specs R wr)) (fun _ wr => left w.heap.size wr)
  case atStart => exact ⟨.inl ⟨_, args, [], [], Nat.le_refl _, A.out, AR.out, AS.out⟩⟩
  case round =>
    clear A AS AR
    rcases hrel.out with ⟨m, args', os, ps, hm, S, hR, hS⟩ | ⟨args', os, ps, bad, S, rfl⟩
    · obtain ⟨As, cs, Aa, ca, vo, vp, h⟩ := S
      have q1 := h.cell 1 _ rfl
      have q5 := h.cell 5 _ rfl
      cases args' with
      | nil =>
        have q2 := h.cell 2 _ rfl
        have q3 := h.cell 3 _ rfl
        have HH := Aside0.mk h
        have hR2 : R = (os, ps, ⟨#[]⟩, 0) := by
          rw [← hR]
          cases m <;> rfl
        subst hR2
        clear h hrel hR
        go_wp2_with (fail)
        go_quiet (fail)
        go_wp2
        have hb := below_step HH.out.bel (pw_below_drewN (Below.refl _ _) nq)
        exact bodyPost_ret (v := .tuple #[vo, vp, .string ⟨#[]⟩, .int .i64 0]) (by simp [results, Try.results9, go_sem]) rfl ⟨_, _, rfl, Kd.R_drewN HH.out.ho _, Kd.R_drewN HH.out.hp _, hb⟩
      | cons a rest =>
        cases m with
        | zero => simp at hm
        | succ m =>
        have HH := Aside0.mk h
        obtain ⟨ad, c, he, _, hK, hc⟩ := Kd.C_get h.ha ByteArray.empty 0 (by omega) (by simp)
        obtain rfl := hK
        have q6 : wr.cell? ad = some (.string a) := pw_cell_below h.bel (by have := hc 0 _ rfl; simpa [Addr.add] using this)
        have hac := h.hac
        simp only [List.length_cons] at hac hm
        have hdr := Kd.C_drop h.ha (m := 1) (by simp) h.hac
        simp only [List.drop_succ_cons, List.drop_zero, he] at hdr
        have f1 := blk_frozen h.blk 1
        subst he
        have n0 : (0 : Int) < ((rest.length + 1 : Nat) : Int) := by omega
        have n1 : (1 : Int) ≤ ((rest.length + 1 : Nat) : Int) := by omega
        have n2 : ((rest.length + 1 : Nat) : Int) ≤ (ca : Int) := by omega
        have AHR := Aside0.mk hR
        have AHS := Aside0.mk hS
        clear h hc hR hS hrel
        by_cases hc1 : ca = 1
        case' pos =>
          subst hc1
          obtain rfl : rest = [] := List.eq_nil_of_length_eq_zero (by omega)
          simp only [if_true] at hdr
          have S1 : St w (wr.setCell ⟨w.heap.size, 1, none⟩ (.slice (some ad) 0 0)) w.heap.size specs [] os ps ⟨#[]⟩ 0 := (HH.out.setArgs (Aa' := some ad) (ca' := 0) (args' := []) hdr (by simp)).st
          have HE := HH.out.st.left
          go_upto_region 5 with (fail)
          generalize wr.setCell ⟨w.heap.size, 1, none⟩ (.slice (some ad) 0 0) = W1 at S1 ⊢
          have hm0 : ([] : List ByteArray).length ≤ m := Nat.zero_le _
          clear hm
          obtain ⟨rest, hrest⟩ : ∃ r : List ByteArray, r = [] := ⟨_, rfl⟩
          rw [← hrest] at S1 AHR AHS HE hm0
          clear hrest
        case' neg =>
          rw [if_neg hc1] at hdr
          have S1 : St w (wr.setCell ⟨w.heap.size, 1, none⟩ (.slice (some { block := ad.block, off := ad.off + 1 }) rest.length (ca - 1))) w.heap.size specs rest os ps ⟨#[]⟩ 0 := (HH.out.setArgs (ca' := ca - 1) (args' := rest) hdr (by omega)).st
          have HE := HH.out.st.left
          go_upto_region 5 with (fail)
          generalize wr.setCell ⟨w.heap.size, 1, none⟩ (.slice (some { block := ad.block, off := ad.off + 1 }) rest.length (ca - 1)) = W1 at S1 ⊢
          have hm0 : rest.length ≤ m := by omega
          clear hm
        all_goals
          clear hdr f1 q1 q5 q6 HH
          obtain ⟨Bs, ds, Ba, da, uo, up, h⟩ := S1
          have p1 := h.cell 1 _ rfl
          have p3 := h.cell 3 _ rfl
          have p5 := h.cell 5 _ rfl
          have AH := Aside0.mk h
          clear h
          by_cases ha : a.toList = [45, 45]
          · have hb : (a.toList == [45, 45]) = true := by rw [ha]; rfl
            obtain ⟨Ap, cp, rfl, _, _⟩ := Kd.R_reads AH.out.hp
            have S1 := AH.out.st
            have hpl := AHS.out.2.2
            simp only [List.length_cons] at hpl
            have hR3 : R = (os, ps ++ rest, ⟨#[]⟩, 0) := by
              rw [← AHR.out]
              conv => lhs; unfold readF
              rw [if_pos ha]
            subst hR3
            clear AHR
            go_wp2_with (fail)
            have hlt := blk_lt AH.out.blk
            have hd1 : W1.drew.heap.size = W1.heap.size := rfl
            have BA := below_alloc (Below.refl W1.drew.heap.size W1.drew) (Obj.cells #[.slice Ap ps.length cp, .slice Ba rest.length da] 23)
            have k0 : (W1.drew.alloc (Obj.cells #[.slice Ap ps.length cp, .slice Ba rest.length da] 23)).cell? ⟨W1.drew.heap.size, 0, none⟩ = some (.slice Ap ps.length cp) := (blk_cell (heap_alloc_new W1.drew _) 0).trans rfl
            have k1 : (W1.drew.alloc (Obj.cells #[.slice Ap ps.length cp, .slice Ba rest.length da] 23)).cell? ⟨W1.drew.heap.size, 1, none⟩ = some (.slice Ba rest.length da) := (blk_cell (heap_alloc_new W1.drew _) 1).trans rfl
            obtain ⟨_, _, hCp⟩ := Kd.R_reads' AH.out.drew.hp
            have cC := concat_calls W1.drew.heap.size Ap Ba cp da ps rest _ k0 k1 (Kd.C_below hCp BA) (Kd.C_below AH.out.ha (below_step AH.out.drew.bel BA)) (by omega) (by omega)
            have AH1 := Aside0.mk AH.out.drew
            have ABA := Aside0.mk BA
            have A2 := Aside0.mk hlt
            clear k0 k1 hCp S1 AH BA hlt
            go_region_with
              ((go_at_call 15; refine (cC).mono ?_; rintro e w3 ⟨v3, rfl, HR3, HB3⟩; obtain ⟨Av, cv, rfl⟩ := Kd.R_slice HR3; have BB := below_step ABA.out HB3; have b3 := (BB.block _ A2.out).trans AH1.out.blk; have c1 := (blk_cell b3 1).trans rfl; have c3 := (blk_cell b3 3).trans rfl; have f3 := blk_frozen b3 3; have c2 := (blk_cell b3 2).trans rfl; have c5 := (blk_cell b3 5).trans rfl))
            all_goals
              go_wp2_with (fail)
              go_quiet (fail)
              go_wp2
              have hls : w.heap.size ≤ (W1.drew.alloc (Obj.cells #[.slice Ap ps.length cp, .slice Ba rest.length da] 23)).heap.size := by
                have := A2.out
                rw [World.size_alloc]
                omega
              have e3 : (ps ++ rest).length = ps.length + rest.length := List.length_append
              rw [e3] at HR3
              refine bodyPost_ret (v := .tuple #[uo, .slice Av (ps.length + rest.length) cv, .string ⟨#[]⟩, .int .i64 0]) (by simp [results, Try.results9, go_sem]) rfl ⟨_, _, rfl, Kd.R_drewN (Kd.R_set (Kd.R_below AH1.out.ho BB) b3 (by decide) 3 _) _, Kd.R_drewN (Kd.R_set (Kd.R_lower HR3 hls) b3 (by decide) 3 _) _, ?_⟩
              exact below_step (below_set (below_step AH1.out.bel BB) (Nat.le_refl _)) (pw_below_drewN (Below.refl _ _) _)
          · have hb : (a.toList == [45, 45]) = false := beq_eq_false_iff_ne.2 ha
            have S1 := AH.out.st
            have cT := taker_calls w.heap.size a W1
            have hsz := AHS.out.1 a (by simp)
            have hol := AHS.out.2.1
            have hpl := AHS.out.2.2
            simp only [List.length_cons] at hol hpl
            have AS1 := Aside0.mk S1
            clear S1
            rcases kindOf_cases a with hk | hk | hk
            · rw [hk] at cT
              have ht : takeF specs a rest os = longF specs a rest os := by unfold takeF; rw [if_pos hk]
              have e26 : ∀ args w, (callFunc 26 args).run Try.prog w = .ok (.enter 26 args) w := enters_of Try.func26 (by kernel_rfl) rfl
              go_wp2_with (first | (go_at_call 16; refine cT.mono ?_; rintro e w2 ⟨rfl, n, rfl⟩; have S2 := AS1.out.drewN n) | (go_at_fn 26; refine (long_calls S2 hn (by omega) a (by omega) (kindOf_long hk)).mono ?_; rintro e w3 ⟨rfl, hr3⟩))
              rw [← ht] at hr3
              have hT := RRel.taken hr3 ha (by rw [hk]; decide) AHS.out (by omega) AHR.out
              go_roundw
              case rel => exact ⟨hT.1⟩
              case measure => rw [HE]; exact hT.2
            · rw [hk] at cT
              have ht : takeF specs a rest os = lettersF specs a a.size 1 rest os := by unfold takeF; rw [if_neg (by rw [hk]; decide)]
              have e27 : ∀ args w, (callFunc 27 args).run Try.prog w = .ok (.enter 27 args) w := enters_of Try.func27 (by kernel_rfl) rfl
              go_wp2_with (first | (go_at_call 16; refine cT.mono ?_; rintro e w2 ⟨rfl, n, rfl⟩; have S2 := AS1.out.drewN n) | (go_at_fn 27; refine (letters_calls S2 hn a (by omega) (kindOf_letters hk) (by omega) _ rfl).mono ?_; rintro e w3 ⟨rfl, hr3⟩))
              rw [← ht] at hr3
              have hT := RRel.taken hr3 ha (by rw [hk]; decide) AHS.out (by omega) AHR.out
              go_roundw
              case rel => exact ⟨hT.1⟩
              case measure => rw [HE]; exact hT.2
            · rw [hk] at cT
              have e28 : ∀ args w, (callFunc 28 args).run Try.prog w = .ok (.enter 28 args) w := enters_of Try.func28 (by kernel_rfl) rfl
              go_wp2_with (first | (go_at_call 16; refine cT.mono ?_; rintro e w2 ⟨rfl, n, rfl⟩; have S2 := AS1.out.drewN n) | (go_at_fn 28; refine (operand_calls S2 (by omega) a).mono ?_; rintro e w3 ⟨rfl, S3⟩))
              have hT := RRel.opered S3 ha hk AHS.out (by omega) AHR.out
              go_roundw
              case rel => exact ⟨hT.1⟩
              case measure => rw [HE]; exact hT.2
    · obtain ⟨As, cs, Aa, ca, vo, vp, h⟩ := S
      have q1 := h.cell 1 _ rfl
      have q4 := h.cell 4 _ rfl
      have q5 := h.cell 5 _ rfl
      have B := Aside0.mk h.bel
      clear h hrel
      by_cases hl : 0 < args'.length
      · have n1 : (0 : Int) < (args'.length : Int) := by omega
        go_wp2_with (fail)
        go_quiet (fail)
        go_wp2
        have hb := below_step B.out (pw_below_drewN (Below.refl _ _) nq)
        exact bodyPost_ret (v := .tuple #[.slice none 0 0, .slice none 0 0, .string bad, .int .i64 10]) (by simp [results, Try.results9, go_sem]) rfl ⟨_, _, rfl, Kd.R_nil _ _ _ _ _, Kd.R_nil _ _ _ _ _, hb⟩
      · have n1 : ¬ ((0 : Int) < (args'.length : Int)) := by omega
        go_wp2_with (fail)
        go_quiet (fail)
        go_wp2
        have hb := below_step B.out (pw_below_drewN (Below.refl _ _) nq)
        exact bodyPost_ret (v := .tuple #[.slice none 0 0, .slice none 0 0, .string bad, .int .i64 10]) (by simp [results, Try.results9, go_sem]) rfl ⟨_, _, rfl, Kd.R_nil _ _ _ _ _, Kd.R_nil _ _ _ _ _, hb⟩
end Go.Proofs.Ytljlhknpfnphnaa.QOpts
