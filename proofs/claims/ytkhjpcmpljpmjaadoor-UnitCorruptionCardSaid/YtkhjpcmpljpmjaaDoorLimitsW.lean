/-
  The walk of UnitLimits. No condition.
-/
import Derived.Test.YtkhjpcmpljpmjaaDoorLaws6
set_option linter.unusedSimpArgs false
set_option linter.unusedVariables false
namespace Go.Proofs.YtkhjpcmpljpmjaaDoor
open Abs Facts Tr
attribute [local irreducible] awp
namespace Tr
end Tr
theorem LeL_map {α : Type} {f g : α → D} (h : ∀ x, Le (f x) (g x)) : ∀ l : List α, LeL (l.map f) (l.map g)
  | [] => trivial
  | x :: l => ⟨h x, LeL_map h l⟩
end Go.Proofs.YtkhjpcmpljpmjaaDoor
