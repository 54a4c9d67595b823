/-
 Ways in a tree whose identifiers differ. Plain. No condition.
-/
import Derived.Test.YtkhjpcmpljpmjaaGreatDoorLaws6
set_option linter.unusedSimpArgs false
set_option linter.unusedVariables false
namespace Go.Proofs.YtkhjpcmpljpmjaaGreatDoor
open Abs Facts Tr
namespace Tr
theorem way_nil (id : Idv) : ∀ t : T, wayT id t = [] ↔ id ∉ idsT t := by
 refine ind1 fun t ih => ?_
 rw [idsT_eq, List.mem_cons, List.mem_flatMap]
 by_cases h0 : t.id = id
 ·rw [wayT_self h0]; simp [h0]
 ·rw [wayT_eq, if_neg h0]
  constructor
  ·intro h hm
   rcases hm with hm | ⟨k, hk, hm⟩
   ·exact h0 hm.symm
   ·have hne : wayT id k ≠ [] := fun e => (ih k hk).1 e hm
    split at h
    ·cases h
    ·rename_i hf
     have := List.find?_eq_none.1 hf (wayT id k) (List.mem_map.2 ⟨k, hk, rfl⟩)
     simp at this
     exact hne this
  ·intro hm
   have : (t.kids.map (wayT id)).find? (fun w => !w.isEmpty) = none := by
    rw [List.find?_eq_none]
    intro w hw
    obtain ⟨k, hk, rfl⟩ := List.mem_map.1 hw
    have := (ih k hk).2 fun h => hm (.inr ⟨k, hk, h⟩)
    rw [this]; simp
   rw [this]
theorem way_ne {id : Idv} {t : T} : wayT id t ≠ [] ↔ id ∈ idsT t := by
 rw [ne_eq, way_nil, Classical.not_not]
theorem way_split {id : Idv} {t : T} (h0 : ¬ t.id = id) (h : wayT id t ≠ []) : ∃ i, ∃ hi : i < t.kids.length, (∀ j, (hj : j < i) → (h : j < t.kids.length) → wayT id t.kids[j] = []) ∧ wayT id t.kids[i] ≠ [] ∧ wayT id t = t :: wayT id t.kids[i] := by
 have hex : ∃ i, ∃ hi : i < t.kids.length, wayT id t.kids[i] ≠ [] := by
  rcases Classical.em (∃ i, ∃ hi : i < t.kids.length, wayT id t.kids[i] ≠ []) with h1 | h1
  ·exact h1
  ·exfalso
   refine h (wayT_none h0 (Nat.le_refl _) fun j _ hj => ?_)
   rcases Classical.em (wayT id t.kids[j] = []) with h2 | h2
   ·exact h2
   ·exact (h1 ⟨j, hj, h2⟩).elim
 let p : Nat → Prop := fun i => ∃ hi : i < t.kids.length, wayT id t.kids[i] ≠ []
 obtain ⟨i, hi, hmin⟩ : ∃ i, p i ∧ ∀ j, j < i → ¬ p j := by
  obtain ⟨i, hi⟩ := hex
  induction i using Nat.strongRecOn with
  | ind i ih =>
   rcases Classical.em (∃ j, j < i ∧ p j) with ⟨j, hj, hp⟩ | h2
   ·exact ih j hj hp
   ·exact ⟨i, hi, fun j hj hp => h2 ⟨j, hj, hp⟩⟩
 obtain ⟨hl, hw⟩ := hi
 have h1 : ∀ j, (hj : j < i) → (h : j < t.kids.length) → wayT id t.kids[j] = [] := fun j hj h => by
  rcases Classical.em (wayT id t.kids[j] = []) with h2 | h2
  ·exact h2
  ·exact (hmin j hj ⟨h, h2⟩).elim
 exact ⟨i, hl, h1, hw, wayT_kid h0 hl h1 hw⟩
theorem nodup_kids {t : T} (h : (idsT t).Nodup) : (∀ k ∈ t.kids, t.id ∉ idsT k) ∧ (∀ k ∈ t.kids, (idsT k).Nodup) ∧ ∀ i j, (hi : i < t.kids.length) → (hj : j < t.kids.length) → i ≠ j → ∀ x ∈ idsT t.kids[i], x ∉ idsT t.kids[j] := by
 rw [idsT_eq, List.nodup_cons] at h
 obtain ⟨h1, h2⟩ := h
 refine ⟨fun k hk hm => h1 (List.mem_flatMap.2 ⟨k, hk, hm⟩), fun k hk => ?_, fun i j hi hj hij x hx hx2 => ?_⟩
 ·exact (List.pairwise_flatMap.1 h2).1 k hk
 ·have hp := (List.pairwise_flatMap.1 h2).2
  rw [List.pairwise_iff_getElem] at hp
  rcases Nat.lt_or_gt_of_ne hij with h3 | h3
  ·exact hp i j hi hj h3 x hx x hx2 rfl
  ·exact hp j i hj hi h3 x hx2 x hx rfl
end Tr
end Go.Proofs.YtkhjpcmpljpmjaaGreatDoor
