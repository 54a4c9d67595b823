/-
  The walks of treeedit's write, SetWords, SetHeading and of the reference's Write. No condition but lengths.
-/
import Derived.Test.YtkhjpcmpljpmjaaGreatDoorEdRel
set_option linter.unusedSimpArgs false
set_option linter.unusedVariables false
namespace Go.Proofs.YtkhjpcmpljpmjaaGreatDoor
open Abs Facts Tr
attribute [local irreducible] awp
namespace Tr
end Tr
end Go.Proofs.YtkhjpcmpljpmjaaGreatDoor
