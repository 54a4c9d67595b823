/-
  The walks of the reference's Grown, Without, With, shared. No condition but lengths.
-/
import Derived.Test.YtkhjpcmpljpmjaaDoorRefA
import Derived.Test.YtkhjpcmpljpmjaaDoorEdAt
set_option linter.unusedSimpArgs false
set_option linter.unusedVariables false
namespace Go.Proofs.YtkhjpcmpljpmjaaDoor
open Abs Facts Tr
attribute [local irreducible] awp
end Go.Proofs.YtkhjpcmpljpmjaaDoor
