/-
  The walks of the reference's Rows, Same, Alike, Bared, Find, Parent, Above. No condition but lengths.
-/
import Derived.Test.YtkhjpcmpljpmjaaDoorRefT
import Derived.Test.YtkhjpcmpljpmjaaDoorFind
set_option linter.unusedSimpArgs false
set_option linter.unusedVariables false
namespace Go.Proofs.YtkhjpcmpljpmjaaDoor
open Abs Facts Tr
attribute [local irreducible] awp
namespace Tr
instance : DecidableEq ByteArray := inferInstance
def sameL : List (T → Bool) → List T → Bool
  | [], [] => true
  | f :: fs, t :: ts => f t && sameL fs ts
  | _, _ => false
/-- Structural equality of trees. -/
def sameT (a : T) : T → Bool := recT (fun a l b => decide (a.id = b.id) && (decide (a.kind = b.kind) && (decide (a.label = b.label) && (decide (a.head = b.head) && (decide (a.words = b.words) && (decide (a.kids.length = b.kids.length) && sameL l b.kids)))))) a
theorem sameT_eq (a b : T) : sameT a b = (decide (a.id = b.id) && (decide (a.kind = b.kind) && (decide (a.label = b.label) && (decide (a.head = b.head) && (decide (a.words = b.words) && (decide (a.kids.length = b.kids.length) && sameL (a.kids.map sameT) b.kids)))))) := by
  unfold sameT; rw [recT_eq]
theorem sameL_iff : ∀ (l m : List T), (∀ k ∈ l, ∀ b, sameT k b = true ↔ k = b) → (sameL (l.map sameT) m = true ↔ l = m)
  | [], [], _ => by simp [sameL]
  | [], _ :: _, _ => by simp [sameL]
  | _ :: _, [], _ => by simp [sameL]
  | a :: l, b :: m, h => by
    simp only [List.map_cons, sameL, Bool.and_eq_true, List.cons.injEq]
    rw [h a (by simp) b, sameL_iff l m (fun k hk => h k (List.mem_cons_of_mem _ hk))]
theorem sameT_iff : ∀ a b : T, sameT a b = true ↔ a = b := by
  refine ind1 fun a ih b => ?_
  rw [sameT_eq]
  simp only [Bool.and_eq_true, decide_eq_true_eq]
  rw [sameL_iff a.kids b.kids ih]
  constructor
  · rintro ⟨h1, h2, h3, h4, h5, _, h6⟩
    rw [← T.eta a, ← T.eta b, h1, h2, h3, h4, h5, h6]
  · rintro rfl; exact ⟨rfl, rfl, rfl, rfl, rfl, rfl, rfl⟩
instance : DecidableEq T := fun a b => decidable_of_iff _ (sameT_iff a b)
end Tr
namespace Tr
end Tr
namespace Tr
end Tr
end Go.Proofs.YtkhjpcmpljpmjaaDoor
