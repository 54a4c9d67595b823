/-
  The walk of the program's Strip. No condition but lengths.
-/
import Derived.Test.YtkhjpcmpljpmjaaDoorStripR
set_option linter.unusedSimpArgs false
set_option linter.unusedVariables false
namespace Go.Proofs.YtkhjpcmpljpmjaaDoor
open Abs Facts Tr
attribute [local irreducible] awp
namespace Tr
end Tr
end Go.Proofs.YtkhjpcmpljpmjaaDoor
