/-
 The walk of the reference's Move. No condition but lengths.
-/
import Derived.Test.YtkhjpcmpljpmjaaGreatDoorEdMoves
set_option linter.unusedSimpArgs false
set_option linter.unusedVariables false
namespace Go.Proofs.YtkhjpcmpljpmjaaGreatDoor
open Abs Facts Tr
attribute [local irreducible] awp
end Go.Proofs.YtkhjpcmpljpmjaaGreatDoor
