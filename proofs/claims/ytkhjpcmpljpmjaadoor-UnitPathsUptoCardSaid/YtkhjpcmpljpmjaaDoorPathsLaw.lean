/-
  Ways in a tree whose identifiers differ. Plain. No condition.
-/
import Derived.Test.YtkhjpcmpljpmjaaDoorLaws6
set_option linter.unusedSimpArgs false
set_option linter.unusedVariables false
namespace Go.Proofs.YtkhjpcmpljpmjaaDoor
open Abs Facts Tr
namespace Tr
theorem way_nil (id : Idv) : ∀ t : T, wayT id t = [] ↔ id ∉ idsT t := by
  refine ind1 fun t ih => ?_
  rw [idsT_eq, List.mem_cons, List.mem_flatMap]
  by_cases h0 : t.id = id
  · rw [wayT_self h0]; simp [h0]
  · rw [wayT_eq, if_neg h0]
    constructor
    · intro h hm
      rcases hm with hm | ⟨k, hk, hm⟩
      · exact h0 hm.symm
      · have hne : wayT id k ≠ [] := fun e => (ih k hk).1 e hm
        split at h
        · cases h
        · rename_i hf
          have := List.find?_eq_none.1 hf (wayT id k) (List.mem_map.2 ⟨k, hk, rfl⟩)
          simp at this
          exact hne this
    · intro hm
      have : (t.kids.map (wayT id)).find? (fun w => !w.isEmpty) = none := by
        rw [List.find?_eq_none]
        intro w hw
        obtain ⟨k, hk, rfl⟩ := List.mem_map.1 hw
        have := (ih k hk).2 fun h => hm (.inr ⟨k, hk, h⟩)
        rw [this]; simp
      rw [this]
theorem way_ne {id : Idv} {t : T} : wayT id t ≠ [] ↔ id ∈ idsT t := by
  rw [ne_eq, way_nil, Classical.not_not]
/-- A way that is no single unit goes through a kid. -/
theorem way_split {id : Idv} {t : T} (h0 : ¬ t.id = id) (h : wayT id t ≠ []) : ∃ i, ∃ hi : i < t.kids.length, (∀ j, (hj : j < i) → (h : j < t.kids.length) → wayT id t.kids[j] = []) ∧ wayT id t.kids[i] ≠ [] ∧ wayT id t = t :: wayT id t.kids[i] := by
  have hex : ∃ i, ∃ hi : i < t.kids.length, wayT id t.kids[i] ≠ [] := by
    rcases Classical.em (∃ i, ∃ hi : i < t.kids.length, wayT id t.kids[i] ≠ []) with h1 | h1
    · exact h1
    · exfalso
      refine h (wayT_none h0 (Nat.le_refl _) fun j _ hj => ?_)
      rcases Classical.em (wayT id t.kids[j] = []) with h2 | h2
      · exact h2
      · exact (h1 ⟨j, hj, h2⟩).elim
  let p : Nat → Prop := fun i => ∃ hi : i < t.kids.length, wayT id t.kids[i] ≠ []
  obtain ⟨i, hi, hmin⟩ : ∃ i, p i ∧ ∀ j, j < i → ¬ p j := by
    obtain ⟨i, hi⟩ := hex
    induction i using Nat.strongRecOn with
    | ind i ih =>
      rcases Classical.em (∃ j, j < i ∧ p j) with ⟨j, hj, hp⟩ | h2
      · exact ih j hj hp
      · exact ⟨i, hi, fun j hj hp => h2 ⟨j, hj, hp⟩⟩
  obtain ⟨hl, hw⟩ := hi
  have h1 : ∀ j, (hj : j < i) → (h : j < t.kids.length) → wayT id t.kids[j] = [] := fun j hj h => by
    rcases Classical.em (wayT id t.kids[j] = []) with h2 | h2
    · exact h2
    · exact (hmin j hj ⟨h, h2⟩).elim
  exact ⟨i, hl, h1, hw, wayT_kid h0 hl h1 hw⟩
theorem way_head {id : Idv} {t : T} (h : wayT id t ≠ []) : (wayT id t)[0]'(List.length_pos_iff.2 h) = t := by
  by_cases h0 : t.id = id
  · simp only [wayT_self h0, List.getElem_cons_zero]
  · obtain ⟨i, hi, _, _, hw⟩ := way_split h0 h
    simp only [hw, List.getElem_cons_zero]
theorem way_last (id : Idv) : ∀ t : T, ∀ h : wayT id t ≠ [], ((wayT id t)[(wayT id t).length - 1]'(by have := List.length_pos_iff.2 h; omega)).id = id := by
  refine ind1 fun t ih h => ?_
  by_cases h0 : t.id = id
  · simp only [wayT_self h0, List.length_cons, List.length_nil, List.getElem_cons_zero]; exact h0
  · obtain ⟨i, hi, _, hne, hw⟩ := way_split h0 h
    have h2 := ih _ (List.getElem_mem hi) hne
    have hp := List.length_pos_iff.2 hne
    simp only [hw, List.length_cons]
    have e : (wayT id t.kids[i]).length + 1 - 1 = (wayT id t.kids[i]).length - 1 + 1 := by omega
    simp only [e, List.getElem_cons_succ]
    exact h2
/-- From any unit of the way on, the way is the rest. -/
theorem way_drop (id : Idv) : ∀ t : T, ∀ m, (hm : m < (wayT id t).length) → wayT id ((wayT id t)[m]) = (wayT id t).drop m := by
  refine ind1 fun t ih m hm => ?_
  have hne : wayT id t ≠ [] := fun h => by rw [h] at hm; simp at hm
  by_cases h0 : t.id = id
  · have hw := wayT_self h0
    have : m = 0 := by rw [hw] at hm; simp at hm; omega
    subst this
    rw [way_head hne]; rfl
  · obtain ⟨i, hi, _, hk, hw⟩ := way_split h0 hne
    cases m with
    | zero => rw [way_head hne]; rfl
    | succ m =>
      have h2 := ih _ (List.getElem_mem hi) m (by rw [hw] at hm; simpa using hm)
      simp only [hw, List.getElem_cons_succ, List.drop_succ_cons]
      exact h2
theorem way_id_mem (id : Idv) (t : T) {x : T} (h : x ∈ wayT id t) : x.id ∈ idsT t := List.mem_map.2 ⟨x, way_mem id t x h, rfl⟩
theorem nodup_kids {t : T} (h : (idsT t).Nodup) : (∀ k ∈ t.kids, t.id ∉ idsT k) ∧ (∀ k ∈ t.kids, (idsT k).Nodup) ∧ ∀ i j, (hi : i < t.kids.length) → (hj : j < t.kids.length) → i ≠ j → ∀ x ∈ idsT t.kids[i], x ∉ idsT t.kids[j] := by
  rw [idsT_eq, List.nodup_cons] at h
  obtain ⟨h1, h2⟩ := h
  refine ⟨fun k hk hm => h1 (List.mem_flatMap.2 ⟨k, hk, hm⟩), fun k hk => ?_, fun i j hi hj hij x hx hx2 => ?_⟩
  · exact (List.pairwise_flatMap.1 h2).1 k hk
  · have hp := (List.pairwise_flatMap.1 h2).2
    rw [List.pairwise_iff_getElem] at hp
    rcases Nat.lt_or_gt_of_ne hij with h3 | h3
    · exact hp i j hi hj h3 x hx x hx2 rfl
    · exact hp j i hj hi h3 x hx2 x hx rfl
/-- A unit of the way is found by its own identifier, at the end of the way up to it. -/
theorem way_take (id : Idv) : ∀ t : T, (idsT t).Nodup → ∀ m, (hm : m < (wayT id t).length) → wayT ((wayT id t)[m]).id t = (wayT id t).take (m + 1) := by
  refine ind1 fun t ih hn m hm => ?_
  have hne : wayT id t ≠ [] := fun h => by rw [h] at hm; simp at hm
  by_cases h0 : t.id = id
  · have hw := wayT_self h0
    have : m = 0 := by rw [hw] at hm; simp at hm; omega
    subst this
    rw [way_head hne, wayT_self rfl, hw]; rfl
  · obtain ⟨i, hi, _, hk, hw⟩ := way_split h0 hne
    cases m with
    | zero => rw [way_head hne, wayT_self rfl, hw]; rfl
    | succ m =>
      obtain ⟨g1, g2, g3⟩ := nodup_kids hn
      have hm' : m < (wayT id t.kids[i]).length := by rw [hw] at hm; simpa using hm
      have h2 := ih _ (List.getElem_mem hi) (g2 _ (List.getElem_mem hi)) m hm'
      have hx : ((wayT id t.kids[i])[m]).id ∈ idsT t.kids[i] := way_id_mem id _ (List.getElem_mem _)
      simp only [hw, List.getElem_cons_succ, List.take_succ_cons]
      rw [← h2]
      refine wayT_kid (fun e => g1 _ (List.getElem_mem hi) (by rw [e]; exact hx)) hi (fun j hj h => ?_) (by rw [h2]; intro e; have := congrArg List.length e; rw [List.length_take, List.length_nil] at this; omega)
      rw [way_nil]
      exact g3 i j hi h (by omega) _ hx
/-- What a valid tree's ways say: the unit q above x, and its place. -/
theorem way_facts {t : T} (hn : (idsT t).Nodup) {id : Idv} (hm : id ∈ idsT t) (h0 : ¬ t.id = id) : ∃ (x q : T) (i : Nat) (hi : i < q.kids.length), findR id t = (x, true) ∧ x.id = id ∧ parR id t = (q.id, (i : Int), true) ∧ findR q.id t = (q, true) ∧ q.kids[i] = x ∧
    (∃ hl : 0 < (ancR id t).length, (ancR id t)[0] = q.id ∧ (ancR id t)[(ancR id t).length - 1]'(by omega) = t.id) ∧ (ancR id t).drop 1 = ancR q.id t ∧ x ∈ nodesT t ∧ q ∈ nodesT t := by
  have hne := way_ne.2 hm
  obtain ⟨_, _, _, hk, hw0⟩ := way_split h0 hne
  have hlen : 2 ≤ (wayT id t).length := by
    have := List.length_pos_iff.2 hk
    rw [hw0, List.length_cons]; omega
  obtain ⟨n, hnl⟩ : ∃ n, (wayT id t).length = n + 2 := ⟨(wayT id t).length - 2, by omega⟩
  have hq : n < (wayT id t).length := by omega
  have hx : n + 1 < (wayT id t).length := by omega
  have hd := way_drop id t n hq
  have hdl : (wayT id t).drop n = [(wayT id t)[n], (wayT id t)[n + 1]] := by
    rw [List.drop_eq_getElem_cons hq, List.drop_eq_getElem_cons hx, List.drop_eq_nil_of_le (by omega)]
  rw [hdl] at hd
  have ht := way_take id t hn n hq
  have hl := way_last id t hne
  have e1 : (wayT id t).length - 1 = n + 1 := by omega
  simp only [e1] at hl
  generalize hxe : (wayT id t)[n + 1] = x at hd hl
  generalize hqe : (wayT id t)[n] = q at hd ht
  have hqi : ¬ q.id = id := fun e => by rw [wayT_self e] at hd; simp at hd
  obtain ⟨i, hi, h1, h2, h3⟩ := way_split hqi (by rw [hd]; simp)
  rw [hd] at h3
  simp only [List.cons.injEq, true_and] at h3
  have hki : q.kids[i] = x := by
    have := way_head h2
    simp only [← h3, List.getElem_cons_zero] at this
    exact this.symm
  refine ⟨x, q, i, hi, ?_, hl, ?_, ?_, hki, ⟨?_, ?_, ?_⟩, ?_, ?_, ?_⟩
  · unfold findR
    rw [last_get _ hne]
    simp only [e1, hxe]
  · have hf : findN (fun k => !(wayT id k).isEmpty) q.kids = i := findN_eq (by omega) (fun j hj => by rw [h1 j hj (by omega)]; rfl) (fun h => by
      cases hz : wayT id q.kids[i] with
      | nil => exact (h2 hz).elim
      | cons a l => rfl)
    unfold parR
    simp only [hnl]
    rw [dif_neg (by omega)]
    have e2 : n + 2 - 2 = n := by omega
    simp only [e2, hqe, hf, hi, if_true]
  · unfold findR
    have hne2 : wayT q.id t ≠ [] := by rw [ht]; intro e; have := congrArg List.length e; rw [List.length_take, List.length_nil] at this; omega
    rw [last_get _ hne2]
    have : (wayT q.id t)[(wayT q.id t).length - 1]'(by have := List.length_pos_iff.2 hne2; omega) = q := by
      have e3 : (wayT q.id t).length - 1 = n := by rw [ht, List.length_take]; omega
      simp only [e3]
      simp only [ht, List.getElem_take]
      exact hqe
    rw [this]
  · unfold ancR; simp; omega
  · have hal : (ancR id t).length = n + 1 := by unfold ancR; simp; omega
    have := List.getElem_reverse (l := (wayT id t).dropLast.map T.id) (i := 0) (by simp; omega)
    refine this.trans ?_
    simp only [List.getElem_map, List.getElem_dropLast, List.length_map, List.length_dropLast]
    have e4 : (wayT id t).length - 1 - 1 - 0 = n := by omega
    simp only [e4, hqe]
  · have hal : (ancR id t).length = n + 1 := by unfold ancR; simp; omega
    have := List.getElem_reverse (l := (wayT id t).dropLast.map T.id) (i := n) (by simp; omega)
    have e5 : (ancR id t).length - 1 = n := by omega
    simp only [e5]
    refine this.trans ?_
    simp only [List.getElem_map, List.getElem_dropLast, List.length_map, List.length_dropLast]
    have e4 : (wayT id t).length - 1 - 1 - n = 0 := by omega
    simp only [e4, way_head hne]
  · unfold ancR
    have e : (wayT id t).dropLast = (wayT id t).take (n + 1) := by rw [List.dropLast_eq_take, hnl]; rfl
    rw [ht, e, List.drop_one, List.tail_reverse, List.map_dropLast]
  · rw [← hxe]; exact way_mem id t _ (List.getElem_mem _)
  · rw [← hqe]; exact way_mem id t _ (List.getElem_mem _)
end Tr
end Go.Proofs.YtkhjpcmpljpmjaaDoor
