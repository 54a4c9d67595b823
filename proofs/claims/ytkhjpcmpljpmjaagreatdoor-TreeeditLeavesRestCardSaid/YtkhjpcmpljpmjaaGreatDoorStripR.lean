/-
 The walks of the reference's Strip and Bare. What Valid and IsBare give. No condition but lengths.
-/
import Derived.Test.YtkhjpcmpljpmjaaGreatDoorRefV
import Derived.Test.YtkhjpcmpljpmjaaGreatDoorValid
import Derived.Test.YtkhjpcmpljpmjaaGreatDoorEqual
import Derived.Test.YtkhjpcmpljpmjaaGreatDoorFlat
set_option linter.unusedSimpArgs false
set_option linter.unusedVariables false
namespace Go.Proofs.YtkhjpcmpljpmjaaGreatDoor
open Abs Facts Tr
attribute [local irreducible] awp
namespace Tr
end Tr
namespace Tr
theorem nameK_ne (k : Int) : (nameK k ≠ emptyB) ↔ (0 ≤ k ∧ k ≤ 7) := by
 by_cases h : 0 ≤ k ∧ k < 8
 ·have : nameK k ≠ emptyB := by
   rcases kind8 h with rfl | rfl | rfl | rfl | rfl | rfl | rfl | rfl <;> decide
  exact ⟨fun _ => by omega, fun _ => this⟩
 ·have : nameK k = emptyB := if_neg h
  exact ⟨fun h2 => absurd this h2, fun h2 => by omega⟩
theorem own_alone (t : T) : (ownB t && decide (t.kids.length ≤ 64)) = aloneR t := by
 unfold ownB aloneR
 by_cases h0 : t.kind = 0
 ·rw [if_pos h0, if_pos h0, decide_eq_true (show 0 ≤ t.kind ∧ t.kind ≤ 7 by omega)]
  by_cases h1 : t.head.length = 0
  ·by_cases h2 : t.words.length = 0
   ·have e1 : rowB t.head = true := by unfold rowB; rw [List.eq_nil_of_length_eq_zero h1]; rfl
    have e2 : rowB t.words = true := by unfold rowB; rw [List.eq_nil_of_length_eq_zero h2]; rfl
    rw [e1, e2, decide_eq_true h1, decide_eq_true h2, decide_eq_true (show t.head.length + t.words.length = 0 by omega)]
    simp [Bool.and_comm]
   ·rw [decide_eq_false h2, decide_eq_false (show ¬ t.head.length + t.words.length = 0 by omega)]; simp
  ·rw [decide_eq_false h1, decide_eq_false (show ¬ t.head.length + t.words.length = 0 by omega)]; simp
 ·rw [if_neg h0, if_neg h0]
  have : decide (nameK t.kind ≠ emptyB) = decide (0 ≤ t.kind ∧ t.kind ≤ 7) := decide_eq_decide.2 (nameK_ne t.kind)
  rw [this]
  cases decide (0 ≤ t.kind ∧ t.kind ≤ 7) <;> cases labelB t.label <;> cases rowB t.head <;> cases rowB t.words <;> cases decide (t.kids.length ≤ 64) <;> rfl
theorem all_nodes (f : T → Bool) (t : T) : (nodesT t).all f = (f t && t.kids.all fun k => (nodesT k).all f) := by
 rw [nodesT_eq, List.all_cons, List.all_flatMap]
theorem all_congr' {α : Type} {f g : α → Bool} : ∀ {l : List α}, (∀ x ∈ l, f x = g x) → l.all f = l.all g
 | [], _ => rfl
 | x :: l, h => by rw [List.all_cons, List.all_cons, h x (by simp), all_congr' fun y hy => h y (List.mem_cons_of_mem _ hy)]
theorem right_nodes : ∀ t : T, (nodesT t).all aloneP = rightT t := by
 refine ind1 fun t ih => ?_
 rw [all_nodes, all_congr' ih, rightT_eq, ← own_alone]
 unfold aloneP
 cases ownB t <;> cases (t.kids.all fun k => nestsB t.kind k.kind) <;> cases decide ((t.kids.map keyK).Nodup) <;> cases decide (t.kids.length ≤ 64) <;> cases t.kids.all rightT <;> rfl
end Tr
theorem pc_Valid (t : T) (hs : szB t = true) (hc : cntT t ≤ 1000000000) (hd : depT t ≤ 1000000000) : PC Tryz.prog 97 [encU t] (.bool (validT t)) := by
 have h := pc_Valid0 t hs hc hd
 rw [right_nodes] at h
 exact h
end Go.Proofs.YtkhjpcmpljpmjaaGreatDoor
