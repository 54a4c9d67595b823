/-
  The walks of the reference's short, words, size, Few. No condition but lengths.
-/
import Derived.Test.YtkhjpcmpljpmjaaDoorTree
set_option linter.unusedSimpArgs false
set_option linter.unusedVariables false
namespace Go.Proofs.YtkhjpcmpljpmjaaDoor
open Abs Facts Tr
attribute [local irreducible] awp
namespace Tr
theorem all_no {α : Type} {f : α → Bool} {l : List α} {k : Nat} (hk : k < l.length) (h : f l[k] = false) : l.all f = false := List.all_eq_false.2 ⟨_, List.getElem_mem hk, by simp [h]⟩
theorem all_step {α : Type} {f : α → Bool} {l : List α} {k : Nat} (hk : k < l.length) (h : (l.take k).all f = true) (h2 : f l[k] = true) : (l.take (k + 1)).all f = true := by
  rw [List.take_succ_eq_append_getElem hk, List.all_append, h, List.all_cons, h2]; rfl
theorem all_done {α : Type} {f : α → Bool} {l : List α} {k : Nat} (hk : ¬ k < l.length) (h : (l.take k).all f = true) : l.all f = true := by rwa [List.take_of_length_le (by omega)] at h
end Tr
namespace Tr
def fitB (t : T) : Bool := recT (fun t l => decide (t.head.length ≤ maxLen) && (decide (t.words.length ≤ maxLen) && (decide (t.kids.length ≤ maxLen) && l.all id))) t
theorem fit_iff (t : T) : fitB t = true ↔ t.head.length ≤ maxLen ∧ t.words.length ≤ maxLen ∧ t.kids.length ≤ maxLen ∧ ∀ k ∈ t.kids, fitB k = true := by
  unfold fitB
  rw [recT_eq]
  simp only [List.all_map, Bool.and_eq_true, decide_eq_true_iff, List.all_eq_true]
  rfl
end Tr
namespace Tr
end Tr
end Go.Proofs.YtkhjpcmpljpmjaaDoor
