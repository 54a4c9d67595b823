/-
  The walks of Find, Parent, Ancestors. No condition but lengths.
-/
import Derived.Test.YtkhjpcmpljpmjaaDoorCopy
set_option linter.unusedSimpArgs false
set_option linter.unusedVariables false
namespace Go.Proofs.YtkhjpcmpljpmjaaDoor
open Abs Facts Tr
attribute [local irreducible] awp
namespace Tr
def T.zero : T := .mk Idv.zero 0 ByteArray.empty [] [] []
end Tr
end Go.Proofs.YtkhjpcmpljpmjaaDoor
