/-
  The walk of the reference's Move. No condition but lengths.
-/
import Derived.Test.YtkhjpcmpljpmjaaDoorEdMoveB
set_option linter.unusedSimpArgs false
set_option linter.unusedVariables false
namespace Go.Proofs.YtkhjpcmpljpmjaaDoor
open Abs Facts Tr
attribute [local irreducible] awp
end Go.Proofs.YtkhjpcmpljpmjaaDoor
