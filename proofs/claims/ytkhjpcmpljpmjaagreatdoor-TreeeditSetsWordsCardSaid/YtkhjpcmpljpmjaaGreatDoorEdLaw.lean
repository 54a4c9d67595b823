/-
  What insertions and removals give, and that each undoes the other. Plain. No condition.
-/
import Derived.Test.YtkhjpcmpljpmjaaGreatDoorRefC
set_option linter.unusedSimpArgs false
set_option linter.unusedVariables false
namespace Go.Proofs.YtkhjpcmpljpmjaaGreatDoor
open Abs Facts Tr
namespace Tr
theorem nodup_of {t : T} (h : standsT t = true) : (idsT t).Nodup := ((stands_iff t).1 h).2.2.2.1
end Tr
end Go.Proofs.YtkhjpcmpljpmjaaGreatDoor
