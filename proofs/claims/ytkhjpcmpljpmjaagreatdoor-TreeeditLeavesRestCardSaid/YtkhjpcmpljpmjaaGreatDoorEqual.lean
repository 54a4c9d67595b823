/-
 The walks of slices.Equal at words, slices.EqualFunc at units, Equal. No condition but lengths.
-/
import Derived.Test.YtkhjpcmpljpmjaaGreatDoorRefS
set_option linter.unusedSimpArgs false
set_option linter.unusedVariables false
namespace Go.Proofs.YtkhjpcmpljpmjaaGreatDoor
open Abs Facts Tr
attribute [local irreducible] awp
end Go.Proofs.YtkhjpcmpljpmjaaGreatDoor
