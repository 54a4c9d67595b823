/-
  The walks of slices.Equal at words, slices.EqualFunc at units, Equal. No condition but lengths.
-/
import Derived.Test.YtkhjpcmpljpmjaaDoorRefS
set_option linter.unusedSimpArgs false
set_option linter.unusedVariables false
namespace Go.Proofs.YtkhjpcmpljpmjaaDoor
open Abs Facts Tr
attribute [local irreducible] awp
end Go.Proofs.YtkhjpcmpljpmjaaDoor
