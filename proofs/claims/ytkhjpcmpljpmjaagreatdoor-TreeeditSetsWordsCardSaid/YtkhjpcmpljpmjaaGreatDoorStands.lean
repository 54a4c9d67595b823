/-
  What stands after an edit: validity, identifiers, sizes. Plain. No condition.
-/
import Derived.Test.YtkhjpcmpljpmjaaGreatDoorEdits
import Derived.Test.YtkhjpcmpljpmjaaGreatDoorEditA
set_option linter.unusedSimpArgs false
set_option linter.unusedVariables false
namespace Go.Proofs.YtkhjpcmpljpmjaaGreatDoor
open Abs Facts Tr
namespace Tr
theorem nest0 (p : Int) : nestsB p 0 = false := by
  by_cases h : 0 ≤ p ∧ p < 8
  · rcases kind8 h with rfl | rfl | rfl | rfl | rfl | rfl | rfl | rfl <;> decide
  · exact if_neg h
def namedT (t : T) : Bool := recT (fun t l => (decide (t.kind = 0) || decide (t.id ≠ Idv.zero)) && l.all id) t
theorem namedT_eq (t : T) : namedT t = ((decide (t.kind = 0) || decide (t.id ≠ Idv.zero)) && t.kids.all namedT) := by
  unfold namedT; rw [recT_eq, List.all_map]; rfl
theorem right_kid {t : T} (h : rightT t = true) : ∀ k ∈ t.kids, nestsB t.kind k.kind = true ∧ rightT k = true := fun k hk => by
  rw [rightT_eq] at h
  simp only [Bool.and_eq_true, List.all_eq_true] at h
  exact ⟨h.2.1 k hk, h.2.2.1 k hk⟩
theorem kid_no0 {t : T} (h : rightT t = true) : ∀ k ∈ t.kids, k.kind ≠ 0 := fun k hk e => by
  have := (right_kid h k hk).1
  rw [e, nest0] at this; cases this
theorem named_right : ∀ t : T, rightT t = true → (namedT t = true ↔ (t.kind = 0 ∨ t.id ≠ Idv.zero) ∧ Idv.zero ∉ t.kids.flatMap idsT) := by
  refine ind1 fun t ih h => ?_
  rw [namedT_eq]
  simp only [Bool.and_eq_true, Bool.or_eq_true, decide_eq_true_eq, List.all_eq_true]
  refine and_congr_right fun _ => ?_
  constructor
  · intro hk hm
    obtain ⟨k, hkm, hz⟩ := List.mem_flatMap.1 hm
    obtain ⟨g1, g2⟩ := (ih k hkm (right_kid h k hkm).2).1 (hk k hkm)
    rw [idsT_eq, List.mem_cons] at hz
    rcases hz with hz | hz
    · rcases g1 with g1 | g1
      · exact kid_no0 h k hkm g1
      · exact g1 hz.symm
    · exact g2 hz
  · intro hz k hkm
    refine (ih k hkm (right_kid h k hkm).2).2 ⟨.inr fun e => hz (List.mem_flatMap.2 ⟨k, hkm, e ▸ id_self k⟩), fun hm => hz (List.mem_flatMap.2 ⟨k, hkm, ?_⟩)⟩
    rw [idsT_eq]; exact List.mem_cons_of_mem _ hm
theorem any_zero (l : List Idv) : (l.any fun x => decide (x = Idv.zero)) = decide (Idv.zero ∈ l) := by
  rw [Bool.eq_iff_iff, List.any_eq_true, decide_eq_true_eq]
  constructor
  · rintro ⟨x, hx, h⟩; rw [decide_eq_true_eq] at h; exact h ▸ hx
  · exact fun h => ⟨_, h, decide_eq_true rfl⟩
theorem ids_tail (t : T) : (idsT t).drop 1 = t.kids.flatMap idsT := by rw [idsT_eq]; rfl
theorem stands_named (t : T) : standsT t = (validT t && namedT t) := by
  unfold standsT
  by_cases hv : validT t = true
  · have hr : rightT t = true := by unfold validT at hv; simp only [Bool.and_eq_true] at hv; exact hv.1
    rw [hv, Bool.true_and, Bool.true_and, any_zero, Bool.eq_iff_iff, named_right t hr]
    simp only [Bool.not_eq_true', decide_eq_false_iff_not]
    by_cases h0 : t.kind = 0
    · rw [if_pos h0, ids_tail]
      exact ⟨fun h => ⟨.inl h0, h⟩, fun h => h.2⟩
    · rw [if_neg h0, idsT_eq, List.mem_cons]
      exact ⟨fun h => ⟨.inr fun e => h (.inl e.symm), fun hm => h (.inr hm)⟩, fun ⟨h1, h2⟩ hm => by
        rcases hm with hm | hm
        · rcases h1 with h1 | h1
          · exact h0 h1
          · exact h1 hm.symm
        · exact h2 hm⟩
  · rw [Bool.not_eq_true] at hv; rw [hv]; rfl
theorem stands_iff (t : T) : standsT t = true ↔ rightT t = true ∧ depT t ≤ 8 ∧ cntT t ≤ 1024 ∧ (idsT t).Nodup ∧ (t.id = Idv.zero ↔ t.kind = 0) ∧ Idv.zero ∉ t.kids.flatMap idsT := by
  rw [stands_named, Bool.and_eq_true]
  unfold validT idsB
  simp only [Bool.and_eq_true, decide_eq_true_eq, Bool.or_eq_true]
  constructor
  · rintro ⟨⟨h1, h2, h3, h4⟩, h5⟩
    rw [named_right t h1] at h5
    refine ⟨h1, h2, h3, ?_⟩
    rcases h4 with h4 | ⟨h4, h4'⟩
    · have ha : ∀ i ∈ idsT t, i = Idv.zero := fun i hi => by simpa using List.all_eq_true.1 h4 i hi
      have h0 : t.id = Idv.zero := ha _ (id_self t)
      have hk : t.kind = 0 := by
        rcases h5.1 with h | h
        · exact h
        · exact (h h0).elim
      have hn : t.kids.flatMap idsT = [] := by
        cases hl : t.kids.flatMap idsT with
        | nil => rfl
        | cons i l =>
          exfalso
          refine h5.2 ?_
          have : i = Idv.zero := ha i (by rw [idsT_eq, hl]; simp)
          rw [hl, this]; exact List.mem_cons_self
      rw [idsT_eq, hn]
      exact ⟨by simp, ⟨fun _ => hk, fun _ => h0⟩, by simp⟩
    · exact ⟨h4', h4, h5.2⟩
  · rintro ⟨h1, h2, h3, h4, h5, h6⟩
    refine ⟨⟨h1, h2, h3, .inr ⟨h5, h4⟩⟩, (named_right t h1).2 ⟨?_, h6⟩⟩
    by_cases h0 : t.kind = 0
    · exact .inl h0
    · exact .inr fun e => h0 (h5.1 e)
/-- Sizes. -/
theorem sz_set {t : T} (h : szB t = true) {l : List T} (hl : l.length ≤ 1000000) (hk : ∀ k ∈ l, szB k = true) : szB (t.setKids l) = true := by
  obtain ⟨h0, h1, h2, h3, h4, _, _⟩ := (sz_iff t).1 h
  exact (sz_iff _).2 ⟨h0, h1, h2, h3, h4, hl, hk⟩
theorem sz_kids {t : T} (h : szB t = true) : t.kids.length ≤ 1000000 ∧ ∀ k ∈ t.kids, szB k = true := by
  obtain ⟨_, _, _, _, _, h5, h6⟩ := (sz_iff t).1 h
  exact ⟨h5, h6⟩
theorem sz_edit {id : Idv} {f : T → T} (hf : ∀ q, szB q = true → q.id = id → szB (f q) = true) : ∀ u : T, szB u = true → szB (editT id f u) = true := by
  refine ind1 fun u ih h => ?_
  rw [editT_eq]
  split
  · exact hf u h ‹_›
  · obtain ⟨h1, h2⟩ := sz_kids h
    refine sz_set h (by rw [List.length_map]; exact h1) fun k hk => ?_
    obtain ⟨k', hk', rfl⟩ := List.mem_map.1 hk
    exact ih k' hk' (h2 k' hk')
end Tr
end Go.Proofs.YtkhjpcmpljpmjaaGreatDoor
