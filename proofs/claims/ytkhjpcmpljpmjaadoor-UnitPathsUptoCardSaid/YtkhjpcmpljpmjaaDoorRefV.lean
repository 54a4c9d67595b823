/-
  The walks of the reference's Ids, May. No condition but lengths.
-/
import Derived.Test.YtkhjpcmpljpmjaaDoorRefT
set_option linter.unusedSimpArgs false
set_option linter.unusedVariables false
namespace Go.Proofs.YtkhjpcmpljpmjaaDoor
open Abs Facts Tr
attribute [local irreducible] awp
namespace Tr
end Tr
end Go.Proofs.YtkhjpcmpljpmjaaDoor
