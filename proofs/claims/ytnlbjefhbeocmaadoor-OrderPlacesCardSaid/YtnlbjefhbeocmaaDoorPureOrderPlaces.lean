/- P10.2: each place comes just once; sorted twice the order stays (40 keys). No condition. -/
import Derived.Test.YtnlbjefhbeocmaaDoorPureSort
import Derived.Test.YtnlbjefhbeocmaaDoorQOrderPlaces
namespace Go.Proofs.YtnlbjefhbeocmaaDoor.Pure
open Go.RowKit Go.Proofs.YtnlbjefhbeocmaaDoor.QOrderCompares Go.Proofs.YtnlbjefhbeocmaaDoor.SortMath Go.Proofs.YtnlbjefhbeocmaaDoor.Ext Go.Proofs.YtnlbjefhbeocmaaDoorW.PrintWords Go.Proofs.YtnlbjefhbeocmaaDoorW.PrintLast Go.Proofs.YtnlbjefhbeocmaaDoorW.PrintMore
set_option linter.unusedVariables false
set_option linter.unusedSimpArgs false

theorem rd_getD' (x : List Int) (i : Nat) (h : i < x.length) : rd x (i : Int) = x[i] := by
  unfold rd
  simp [h]
/-- The keys in order. -/
def keys (l : List S23) (p : List Int) : List S23 := p.map fun i => rd_T23 l i
theorem keys_at (l : List S23) (p : List Int) (i : Nat) (h : i < p.length) : rd_T23 (keys l p) (i : Int) = rd_T23 l p[i] := by
  have hl : i < (keys l p).length := by simp [keys, h]
  show (keys l p).getD (i : Int).toNat z23 = _
  rw [Int.toNat_natCast, List.getD_eq_getElem?_getD, List.getElem?_eq_getElem hl]
  simp [keys]
theorem place_l0 (o : Int) (rev dirs : Bool) (l : List S23) (p : List Int) (hp : p.Perm (rng 0 l.length)) (h40 : l.length ≤ 40) (K : Nat) : ∀ m i : Nat, ∀ seen : List Bool, i + m = l.length → seen.length = l.length →
    (∀ v : Nat, v < l.length → seen[v]? = some (decide ((v : Int) ∈ p.take i))) →
    domesdaylaw10_OrderPlaces.l0 (K + m + 1) o l p seen (keys l (p.take i)) (i : Int) rev dirs = (order_Sort.f K o rev dirs (keys l p)).bind fun t158 => domesdaylaw10_OrderPlaces.l1 K l p t158 0 := by
  have hlen : p.length = l.length := by rw [hp.length_eq, rng_len]
  have hnd : p.Nodup := hp.nodup_iff.2 (rng_nodup 0 l.length)
  intro m
  induction m with
  | zero =>
    intro i seen hi hs hv
    rw [domesdaylaw10_OrderPlaces.l0, if_neg (by omega), List.take_of_length_le (by omega)]
  | succ m ih =>
    intro i seen hi hs hv
    have hip : i < p.length := by omega
    have hm := (mem_rng 0 l.length _).1 (hp.mem_iff.1 (List.getElem_mem hip))
    have ev : ((p[i].toNat : Nat) : Int) = p[i] := by omega
    have hnot : ¬ (p[i] ∈ p.take i) := by
      intro hmem
      obtain ⟨j, hj, e⟩ := List.getElem_of_mem hmem
      have hj' : j < i := by rw [List.length_take] at hj; omega
      rw [List.getElem_take] at e
      exact (List.pairwise_iff_getElem.1 (List.nodup_iff_pairwise_ne.1 hnd) j i (by omega) hip hj') e
    have hseen : rdOf false seen p[i] = false := by
      unfold rdOf
      have := hv p[i].toNat (by omega)
      rw [ev] at this
      rw [List.getD_eq_getElem?_getD, this]
      simp [hnot]
    have hk : (keys l (p.take i)).length = i := by simp [keys]; omega
    rw [show K + (m + 1) + 1 = (K + m + 1) + 1 from by omega, domesdaylaw10_OrderPlaces.l0, if_pos (by omega), if_pos (by omega), rd_getD' p i hip, if_neg (by omega), if_neg (by omega), if_pos (by omega), if_pos (by omega), hseen, if_neg (by simp), if_pos (by omega), if_pos (by omega),
      wrap_id ((i : Int) + 1) (by omega) (by omega), show (i : Int) + 1 = ((i + 1 : Nat) : Int) from by omega]
    have ek : keys l (p.take i) ++ [(⟨(rd_T23 l p[i]).f0, (rd_T23 l p[i]).f1, (rd_T23 l p[i]).f2, (rd_T23 l p[i]).f3⟩ : S23)] = keys l (p.take (i + 1)) := by
      rw [List.take_succ_eq_append_getElem hip]
      unfold keys
      rw [List.map_append]
      rfl
    rw [ek]
    refine ih (i + 1) _ (by omega) (by simp [hs]) (fun v hvl => ?_)
    have mem : ∀ x, x ∈ p.take (i + 1) ↔ (x ∈ p.take i ∨ x = p[i]) := fun x => by rw [List.take_succ_eq_append_getElem hip, List.mem_append, List.mem_singleton]
    by_cases e : v = p[i].toNat
    · subst e
      rw [List.getElem?_set_self (by omega), ev, decide_eq_true ((mem _).2 (.inr rfl))]
    · rw [List.getElem?_set_ne (fun h => e h.symm), hv v hvl]
      have hne : ¬ ((v : Int) = p[i]) := by omega
      congr 1
      rw [decide_eq_decide, mem]
      exact ⟨.inl, fun h => h.resolve_right hne⟩
theorem place_l1 (l : List S23) (p q : List Int) (hq : q = rng 0 l.length) (hp : p.length = l.length) (h40 : l.length ≤ 40) : ∀ m i k : Nat, l.length - i ≤ m → i ≤ l.length → m < k → domesdaylaw10_OrderPlaces.l1 k l p q (i : Int) = some true := by
  have hl : q.length = l.length := by rw [hq, rng_len]
  intro m
  induction m with
  | zero =>
    intro i k h1 h2 hk
    obtain ⟨k, rfl⟩ : ∃ j, k = j + 1 := ⟨k - 1, by omega⟩
    rw [domesdaylaw10_OrderPlaces.l1, if_neg (by omega), if_pos (by omega), hl]
    simp
  | succ m ih =>
    intro i k h1 h2 hk
    obtain ⟨k, rfl⟩ : ∃ j, k = j + 1 := ⟨k - 1, by omega⟩
    rw [domesdaylaw10_OrderPlaces.l1]
    by_cases c : (i : Int) < (q.length : Int)
    · have e : rd q (i : Int) = (i : Int) := by
        rw [rd_getD' q i (by omega)]
        subst hq
        simp [rng]
      rw [if_pos c, if_pos (by omega), if_pos e, wrap_id ((i : Int) + 1) (by omega) (by omega), show (i : Int) + 1 = ((i + 1 : Nat) : Int) from by omega]
      exact ih (i + 1) k (by omega) (by omega) (by omega)
    · rw [if_neg c, if_pos (by omega), hl]
      simp
theorem again_sorted (o : Int) (rev dirs : Bool) (l : List S23) : sorted o rev dirs (keys l (sorted o rev dirs l)) = rng 0 l.length := by
  have hlen := sorted_len o rev dirs l
  have hk : (keys l (sorted o rev dirs l)).length = l.length := by simp [keys, hlen]
  refine sorted_unique (ord_pl o rev dirs (keys l (sorted o rev dirs l))) (sorted_sorted _ _ _ _) ?_ (by rw [← hk]; exact sorted_perm o rev dirs (keys l (sorted o rev dirs l)))
  refine List.pairwise_iff_getElem.2 (fun i j hi hj hij => ?_)
  rw [rng_len] at hi hj
  have e1 : (rng 0 l.length)[i]'(by rw [rng_len]; exact hi) = (i : Int) := by simp [rng]
  have e2 : (rng 0 l.length)[j]'(by rw [rng_len]; exact hj) = (j : Int) := by simp [rng]
  rw [e1, e2]
  have hs := List.pairwise_iff_getElem.1 (sorted_sorted o rev dirs l) i j (by omega) (by omega) hij
  rw [lt_iff] at hs ⊢
  have ep : pl o rev dirs (keys l (sorted o rev dirs l)) (i : Int) (j : Int) = pl o rev dirs l (sorted o rev dirs l)[i] (sorted o rev dirs l)[j] := by
    unfold pl
    rw [keys_at l _ i (by omega), keys_at l _ j (by omega)]
  rw [ep]
  omega
theorem OrderPlaces (o : Int) (rev dirs : Bool) (l : List S23) : ∃ k, domesdaylaw10_OrderPlaces.f k o rev dirs l = some true := by
  obtain ⟨b, hb, hp⟩ := few_eq l (320000 + l.length + 1 + 1) (by omega)
  refine ⟨320000 + l.length + 1 + 1, ?_⟩
  rw [domesdaylaw10_OrderPlaces.f, awake_eq _ (by omega), Option.bind_some, if_pos rfl, hb, Option.bind_some, domesdaylaw10_OrderPlaces.j0]
  cases b with
  | false => rw [if_pos (by decide), awake_eq _ (by omega)]; rfl
  | true =>
    have hl := hp rfl
    have h40 := hl.1
    have hlen := sorted_len o rev dirs l
    have hperm := sorted_perm o rev dirs l
    rw [if_neg (by simp), sort_eq o rev dirs l hl _ (by omega), Option.bind_some, if_pos (by omega), if_pos (by omega), Int.toNat_natCast]
    have h := place_l0 o rev dirs l _ hperm h40 320000 l.length 0 (List.replicate l.length false) (by omega) (by simp) (fun v hv => by simp [hv])
    have h' : domesdaylaw10_OrderPlaces.l0 (320000 + l.length + 1) o l (sorted o rev dirs l) (List.replicate l.length false) ([] : List S23) 0 rev dirs = _ := h
    rw [h']
    have hk : okL (keys l (sorted o rev dirs l)) := by
      refine ⟨by simp [keys, hlen]; omega, fun x hx => ?_⟩
      obtain ⟨i, hi, rfl⟩ := List.mem_map.1 hx
      have := (mem_rng _ _ _).1 (hperm.mem_iff.1 hi)
      exact hl.at_ i (by omega) (by omega)
    rw [sort_eq o rev dirs _ hk _ (by omega), Option.bind_some, again_sorted]
    exact place_l1 l _ _ rfl hlen h40 100 0 320000 (by omega) (by omega) (by omega)
end Go.Proofs.YtnlbjefhbeocmaaDoor.Pure
