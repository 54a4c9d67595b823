/-
  The walks of treeedit's Relabel and of the reference's Relabel. No condition but lengths.
-/
import Derived.Test.YtkhjpcmpljpmjaaGreatDoorEdMove
set_option linter.unusedSimpArgs false
set_option linter.unusedVariables false
namespace Go.Proofs.YtkhjpcmpljpmjaaGreatDoor
open Abs Facts Tr
attribute [local irreducible] awp
namespace Tr
def T.setWords (t : T) (l : List Wd) : T := .mk t.id t.kind t.label t.head l t.kids
def T.setHead (t : T) (l : List Wd) : T := .mk t.id t.kind t.label l t.words t.kids
theorem edit_congr {id : Idv} {f g : T → T} : ∀ u : T, (∀ q ∈ nodesT u, q.id = id → f q = g q) → editT id f u = editT id g u := by
  refine ind1 fun u ih h => ?_
  rw [editT_eq, editT_eq]
  split
  · exact h u (nodesT_self u) ‹_›
  · rw [List.map_congr_left fun k hk => ih k hk fun q hq => h q (nodesT_kid hk hq)]
theorem with_edit {u x : T} {id : Idv} {f : T → T} (hn : (idsT u).Nodup) (hm : id ∈ idsT u) (hx : x = f (findR id u).1) (hid : x.id = id) (hf : ∀ q : T, (f q).setKids q.kids = f q) : editT x.id (fun q => x.setKids q.kids) u = editT id f u := by
  rw [hid]
  refine edit_congr u fun q hq hqi => ?_
  have := node_find hn hq hqi
  rw [hx, this]
  exact hf q
end Tr
end Go.Proofs.YtkhjpcmpljpmjaaGreatDoor
