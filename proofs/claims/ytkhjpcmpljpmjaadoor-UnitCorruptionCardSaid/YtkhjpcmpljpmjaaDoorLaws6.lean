/-
  The walks of UnitValidity, UnitLookup, UnitEquality. No condition but lengths.
-/
import Derived.Test.YtkhjpcmpljpmjaaDoorAwake6
set_option linter.unusedSimpArgs false
set_option linter.unusedVariables false
namespace Go.Proofs.YtkhjpcmpljpmjaaDoor
open Abs Facts Tr
attribute [local irreducible] awp
namespace Tr
theorem sz_zero : szB T.zero = true := by decide +kernel
end Tr
end Go.Proofs.YtkhjpcmpljpmjaaDoor
