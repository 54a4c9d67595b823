/-
  Rows of structs as lists: taking out and putting in an element. Owned rows that stand for nil. No condition.
-/
import Derived.Test.YtkhjpcmpljpmjaaDoorFind
import Derived.Test.YtkhjpcmpljpmjaaDoorRefT
set_option linter.unusedSimpArgs false
set_option linter.unusedVariables false
namespace Go.Proofs.YtkhjpcmpljpmjaaDoor
open Abs Facts Tr Go.RowKit
namespace Abs
section
variable {α : Type} {f : α → List D} {sz : Nat}
end
variable {P : Program}
end Abs
end Go.Proofs.YtkhjpcmpljpmjaaDoor
