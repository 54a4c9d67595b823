/-
 The walks of UnitValidity, UnitLookup, UnitEquality. No condition but lengths.
-/
import Derived.Test.YtkhjpcmpljpmjaaGreatDoorAwake6
set_option linter.unusedSimpArgs false
set_option linter.unusedVariables false
namespace Go.Proofs.YtkhjpcmpljpmjaaGreatDoor
open Abs Facts Tr
attribute [local irreducible] awp
namespace Tr
theorem sz_zero : szB T.zero = true := by decide +kernel
theorem sz_find (id : Idv) (t : T) (hs : szB t = true) : szB (findR id t).1 = true := by
 by_cases h : wayT id t = []
 ·rw [findR_no h]; exact sz_zero
 ·unfold findR
  rw [last_get _ h]
  exact sz_nodes t hs _ (way_mem id t _ (List.getElem_mem _))
theorem ancR_len (id : Idv) (t : T) : (ancR id t).length ≤ depT t := by
 have h1 := wayT_len id t
 have h3 : (ancR id t).length = (wayT id t).length - 1 := by unfold ancR; simp
 omega
end Tr
end Go.Proofs.YtkhjpcmpljpmjaaGreatDoor
