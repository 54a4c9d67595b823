/-
  The walk of the reference's Order. No condition but lengths.
-/
import Derived.Test.YtjibdljdkgedcaaRefFree
set_option linter.unusedSimpArgs false
set_option linter.unusedVariables false
namespace Go.Proofs.Ytjibdljdkgedcaa
open Abs Facts Topo
attribute [local irreducible] awp
namespace Topo
def orderF (l : List Pr) (n : Nat) : Nat → List Nat → Option (List Nat)
  | 0, row => some row
  | k + 1, row => match (List.range n).find? (fun p => freeR row p l) with
    | none => none
    | some p => orderF l n k (row ++ [p])
end Topo
end Go.Proofs.Ytjibdljdkgedcaa
