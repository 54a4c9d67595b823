/-
  The walks of Find, Parent, Ancestors. No condition but lengths.
-/
import Derived.Test.YtkhjpcmpljpmjaaDoorCopy
set_option linter.unusedSimpArgs false
set_option linter.unusedVariables false
namespace Go.Proofs.YtkhjpcmpljpmjaaDoor
open Abs Facts Tr
attribute [local irreducible] awp
namespace Tr
def T.zero : T := .mk Idv.zero 0 ByteArray.empty [] [] []
end Tr
theorem le_zeroU : Le (.agg [.int .i64 0, .int .i64 0, .int .i64 0, .int .i64 0, .str ByteArray.empty, .nil, .nil, .nil]) (encU T.zero) := by
  rw [encU, cellsU_eq]
  exact Le.agg ⟨Le.refl _, Le.refl _, Le.refl _, Le.refl _, Le.refl _, Le.nil 4, Le.nil 4, Le.nil 8, trivial⟩
end Go.Proofs.YtkhjpcmpljpmjaaDoor
