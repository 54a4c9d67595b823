/-
  The walks of the reference's free, Order. No condition but lengths.
-/
import Derived.Test.YtjibdljdkgedcaaRefAt
import Derived.Test.YtjibdljdkgedcaaSort
set_option linter.unusedSimpArgs false
set_option linter.unusedVariables false
namespace Go.Proofs.Ytjibdljdkgedcaa
open Abs Facts Topo
attribute [local irreducible] awp
namespace Topo
def inL (row : List Nat) (x : Int) : Bool := row.any fun y => decide ((y : Int) = x)
def freeR (row : List Nat) (k : Nat) (l : List Pr) : Bool := !inL row k && l.all fun p => !(decide (p.2 = k) && !inL row p.1)
end Topo
end Go.Proofs.Ytjibdljdkgedcaa
