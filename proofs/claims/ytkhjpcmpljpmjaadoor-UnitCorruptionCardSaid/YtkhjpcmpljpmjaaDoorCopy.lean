/-
  The walks of slices.Clone at words, and of copied. No condition but lengths.
-/
import Derived.Test.YtkhjpcmpljpmjaaDoorWays
set_option linter.unusedSimpArgs false
set_option linter.unusedVariables false
namespace Go.Proofs.YtkhjpcmpljpmjaaDoor
open Abs Facts Tr
attribute [local irreducible] awp
theorem cellsAll_encWd : ∀ l : List Wd, cellsAll 4 (l.map encWd) = some (l.flatMap cellsWd)
  | [] => rfl
  | t :: w => by
    rw [List.map_cons, List.flatMap_cons]
    unfold cellsAll
    rw [cellsAll_encWd w]
    rfl
theorem pure_cellsWd (l : List Wd) : pureD.pureL (l.flatMap cellsWd) = true := pureL_flatMap (fun _ => rfl) l
theorem group_cellsWd (l : List Wd) : groupD true 4 l.length (l.flatMap cellsWd) = l.map encWd := groupD_agg (f := cellsWd) (sz := 4) (fun _ => rfl) l
namespace Tr
/-- A tree whose rows are short. -/
def smB (t : T) : Bool := recT (fun t l => decide (t.head.length ≤ 1000000) && (decide (t.words.length ≤ 1000000) && (decide (t.kids.length ≤ 1000000) && l.all id))) t
theorem sm_iff (t : T) : smB t = true ↔ t.head.length ≤ 1000000 ∧ t.words.length ≤ 1000000 ∧ t.kids.length ≤ 1000000 ∧ ∀ k ∈ t.kids, smB k = true := by
  unfold smB
  rw [recT_eq]
  simp only [List.all_map, Bool.and_eq_true, decide_eq_true_iff, List.all_eq_true]
  rfl
theorem sm_fit : ∀ t : T, smB t = true → fitB t = true := by
  refine ind1 fun t ih h => ?_
  obtain ⟨h1, h2, h3, h4⟩ := (sm_iff t).1 h
  exact (fit_iff t).2 ⟨by unfold maxLen; omega, by unfold maxLen; omega, by unfold maxLen; omega, fun k hk => ih k hk (h4 k hk)⟩
end Tr
end Go.Proofs.YtkhjpcmpljpmjaaDoor
