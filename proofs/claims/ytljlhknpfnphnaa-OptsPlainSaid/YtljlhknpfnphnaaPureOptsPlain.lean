/- P13.1: behind a -- all are operands; so is all that doesn't begin with a - (20 arguments). -/
import Derived.Test.YtljlhknpfnphnaaPureOptBase
import Derived.Test.YtljlhknpfnphnaaQPlain
namespace Go.Proofs.Ytljlhknpfnphnaa.Pure
open Go.RowKit Go.Proofs.Ytljlhknpfnphnaa.QOpts Go.Proofs.YtljlhknpfnphnaaW.PrintWords Go.Proofs.YtljlhknpfnphnaaW.PrintLast Go.Proofs.YtljlhknpfnphnaaW.PrintMore
set_option linter.unusedVariables false
set_option linter.unusedSimpArgs false

def ex (a : ByteArray) : ByteArray := (⟨#[120]⟩ : ByteArray) ++ a
theorem ex_list (a : ByteArray) : (ex a).data.toList = 120 :: a.data.toList := by
  unfold ex
  rw [ByteArray.data_append, Array.toList_append]
  rfl
theorem ex_size (a : ByteArray) : (ex a).size = a.size + 1 := by
  unfold ex
  rw [ByteArray.size_append]
  show 1 + a.size = a.size + 1
  omega
theorem ex_plain (a : ByteArray) : ¬ (ex a).toList = [45, 45] := by
  rw [ByteArray.toList_eq]
  show ¬ (ex a).data.toList = [45, 45]
  rw [ex_list]
  simp
theorem ex_kind (a : ByteArray) : kindOf (ex a) = 28 := by
  unfold kindOf
  have h1 : beginsB (ex a) ⟨#[45, 45]⟩ = false := by
    unfold beginsB Lib.hasPrefix
    rw [ex_list]
    rfl
  have h2 : bt (ex a) 0 = 120 := by
    have hs : (0 : Int).toNat < (ex a).size := by rw [ex_size]; show 0 < a.size + 1; omega
    rw [← bt_at (ex a) 0 hs]
    have : (ex a)[(0 : Int).toNat]'hs = 120 := by
      show (ex a).data[0]'(show 0 < (ex a).data.size from hs) = 120
      rw [← Array.getElem_toList]
      simp only [ex_list]
      rfl
    rw [this]
    rfl
  rw [h1, h2, if_neg (by decide), if_neg (fun h => absurd h.2 (by decide))]
theorem read_ex (specs : List S42) : ∀ (l : List ByteArray) (m : Nat) (os : List S36) (ps : List ByteArray), l.length ≤ m → readF specs m (l.map ex) os ps = (os, ps ++ l.map ex, ⟨#[]⟩, 0) := by
  intro l
  induction l with
  | nil =>
    intro m os ps h
    simp only [List.map_nil, List.append_nil]
    cases m <;> rfl
  | cons a l ih =>
    intro m os ps h
    cases m with
    | zero => simp at h
    | succ m =>
      simp only [List.map_cons]
      unfold readF
      rw [if_neg (ex_plain a), if_pos (ex_kind a), ih m os _ (by simpa using h), List.append_assoc]
      rfl
theorem plain_l0 (specs : List S42) (args : List ByteArray) (hs : specs.length ≤ 30) (hl : args.length ≤ 30) (hb : ∀ j, (h : j < args.length) → args[j].size ≤ 200) :
    ∀ r i K : Nat, i + r = args.length → r + 1200 ≤ K → domesdaylaw13_OptsPlain.l0 K specs args ((args.take i).map ex) (i : Int) = some true := by
  intro r
  induction r with
  | zero =>
    intro i K h hK
    obtain ⟨K, rfl⟩ : ∃ j, K = j + 1 := ⟨K - 1, by omega⟩
    rw [domesdaylaw13_OptsPlain.l0, if_neg (by omega), List.take_of_length_le (by omega), read_f K specs _ (by omega) (by simp; omega) (fun a ha => by
      obtain ⟨x, hx, rfl⟩ := List.mem_map.1 ha
      obtain ⟨j, hj, rfl⟩ := List.getElem_of_mem hx
      have := hb j hj
      rw [ex_size]
      omega), read_ex specs args _ [] [] (by simp)]
    simp only [Option.bind_some, List.nil_append, List.length_nil]
    rw [if_pos trivial, if_pos (by simp), same_refl _ (by simp; omega) K (by omega)]
    rfl
  | succ r ih =>
    intro i K h hK
    obtain ⟨K, rfl⟩ : ∃ j, K = j + 1 := ⟨K - 1, by omega⟩
    have hi : i < args.length := by omega
    have hsz := hb i hi
    rw [domesdaylaw13_OptsPlain.l0, if_pos (by omega), if_pos (by omega), rd_at args i hi, if_pos (by omega), if_pos (by simp; omega), wrap_id _ (by omega) (by omega), show (i : Int) + 1 = ((i + 1 : Nat) : Int) from by omega]
    have e : (args.take i).map ex ++ [(⟨#[120]⟩ : ByteArray) ++ args[i]] = (args.take (i + 1)).map ex := by
      rw [List.take_succ_eq_append_getElem hi, List.map_append]
      rfl
    rw [e]
    exact ih (i + 1) K (by omega) (by omega)
theorem OptsPlain (l0 : List S42) (l1 : List ByteArray) : ∃ k, domesdaylaw13_OptsPlain.f k l0 l1 = some true := by
  refine ⟨2002, ?_⟩
  unfold domesdaylaw13_OptsPlain.f
  rw [awake]
  simp only [Option.bind_some, if_true]
  have hj : domesdaylaw13_OptsPlain.j0 2002 l0 l1 true = some true := by
    rw [domesdaylaw13_OptsPlain.j0, if_pos rfl, awake]
    rfl
  obtain ⟨b, hb, hc⟩ := few l0 l1 2002 (by omega)
  rw [hb]
  simp only [Option.bind_some]
  cases b with
  | false => rw [if_neg (by decide)]; exact hj
  | true =>
    rw [if_pos rfl]
    obtain ⟨c1, c2, c3⟩ := hc rfl
    by_cases h20 : (l1.length : Int) > 20
    · rw [decide_eq_true h20]; exact hj
    · rw [decide_eq_false h20, domesdaylaw13_OptsPlain.j0, if_neg (by decide)]
      simp only [Option.bind_some]
      rw [if_pos (by simp; omega), read_f 2001 l0 _ (by omega) (by simp; omega) (fun a ha => by
        rcases List.mem_append.1 ha with h | h
        · simp at h; subst h; decide
        · obtain ⟨j, hj, rfl⟩ := List.getElem_of_mem h
          have := c3 j hj
          omega)]
      have e : readF l0 ([(⟨#[45, 45]⟩ : ByteArray)] ++ l1).length ([(⟨#[45, 45]⟩ : ByteArray)] ++ l1) [] [] = ([], l1, ⟨#[]⟩, 0) := by
        rw [show ([(⟨#[45, 45]⟩ : ByteArray)] ++ l1).length = l1.length + 1 from by simp]
        show readF l0 (l1.length + 1) ((⟨#[45, 45]⟩ : ByteArray) :: l1) [] [] = _
        unfold readF
        rw [if_pos (by kernel_rfl)]
        rfl
      rw [e]
      simp only [Option.bind_some, List.length_nil]
      rw [if_pos trivial, if_pos (by simp), same_refl l1 (by omega) 2001 (by omega)]
      simp only [Option.bind_some, Bool.not_true]
      rw [domesdaylaw13_OptsPlain.j1, if_neg (by decide)]
      exact plain_l0 l0 l1 c2 c1 c3 l1.length 0 2000 (by omega) (by omega)
end Go.Proofs.Ytljlhknpfnphnaa.Pure
