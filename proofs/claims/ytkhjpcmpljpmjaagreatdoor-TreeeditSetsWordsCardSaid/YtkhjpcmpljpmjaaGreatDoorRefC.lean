/-
  The walks of the reference's Wrong, Insert, Take. No condition but lengths.
-/
import Derived.Test.YtkhjpcmpljpmjaaGreatDoorRefB
set_option linter.unusedSimpArgs false
set_option linter.unusedVariables false
namespace Go.Proofs.YtkhjpcmpljpmjaaGreatDoor
open Abs Facts Tr
attribute [local irreducible] awp

namespace Tr
/-- The number of the first error of an insertion. -/
def wrongT (u : T) (parent : Idv) (i : Int) (x : T) : Int :=
  if standsT u = false ∨ standsT x = false ∨ x.kind = 0 then 1 else
  if (findR parent u).2 = false then 4 else
  if nestsB (findR parent u).1.kind x.kind = false then 9 else
  if i < 0 ∨ ((findR parent u).1.kids.length : Int) < i then 3 else
  if takenT (findR parent u).1.kids x.kind x.label = true then 10 else
  if 64 ≤ (findR parent u).1.kids.length ∨ 8 < (ancR parent u).length + 1 + depT x ∨ 1024 < cntT u + cntT x then 6 else
  if ((idsT x).any fun i => (findR i u).2) = true then 5 else 0
theorem node_find {id : Idv} {u q : T} (hn : (idsT u).Nodup) (hq : q ∈ nodesT u) (hid : q.id = id) : findR id u = (q, true) := by
  have key : ∀ u : T, (idsT u).Nodup → q ∈ nodesT u → findR id u = (q, true) := by
    refine ind1 fun u ih hn hq => ?_
    rw [nodesT_eq, List.mem_cons] at hq
    rcases hq with rfl | hq
    · exact findR_self hid
    · obtain ⟨k, hk, hqk⟩ := List.mem_flatMap.1 hq
      obtain ⟨i, hi, rfl⟩ := List.getElem_of_mem hk
      obtain ⟨g1, g2, g3⟩ := nodup_kids hn
      have hin : id ∈ idsT u.kids[i] := List.mem_map.2 ⟨q, hqk, hid⟩
      have h2 := ih _ hk (g2 _ hk) hqk
      have hw : wayT id u.kids[i] ≠ [] := way_ne.2 hin
      rw [findR_cons (wayT_kid (fun e => g1 _ hk (e ▸ hin)) hi (fun j hj h => (way_nil id _).2 (g3 i j hi h (by omega) id hin)) hw) hw, h2]
  exact key u hn hq
/-- The number of the first error of a removal. -/
def takeE (u : T) (id : Idv) : Int := if standsT u = false then 1 else if (findR id u).2 = false then 4 else if u.id = id then 9 else 0
/-- What the absence of an error says. -/
theorem wrong_ok {u x : T} {parent : Idv} {i : Int} (h : wrongT u parent i x = 0) : (standsT u = true ∧ standsT x = true ∧ x.kind ≠ 0 ∧ (findR parent u).2 = true ∧ nestsB (findR parent u).1.kind x.kind = true ∧ takenT (findR parent u).1.kids x.kind x.label = false ∧ (findR parent u).1.kids.length < 64 ∧ (ancR parent u).length + 1 + depT x ≤ 8 ∧ cntT u + cntT x ≤ 1024 ∧ ((idsT x).any fun i => (findR i u).2) = false) ∧
    parent ∈ idsT u ∧ ∃ n : Nat, i = n ∧ ∀ q ∈ nodesT u, q.id = parent → n ≤ q.kids.length := by
  unfold wrongT at h
  split at h
  · cases h
  rename_i h1
  split at h
  · cases h
  rename_i h2
  split at h
  · cases h
  rename_i h3
  split at h
  · cases h
  rename_i h4
  split at h
  · cases h
  rename_i h5
  split at h
  · cases h
  rename_i h6
  split at h
  · cases h
  rename_i h7
  simp only [not_or, Bool.not_eq_false, Bool.not_eq_true] at h1 h2 h3 h5 h7
  refine ⟨⟨h1.1, h1.2.1, h1.2.2, h2, h3, h5, by omega, by omega, by omega, h7⟩, ?_, i.toNat, by omega, fun q hq hid => ?_⟩
  · rw [find_in, decide_eq_true_eq] at h2; exact h2
  · rw [node_find ((stands_iff u).1 h1.1).2.2.2.1 hq hid] at h4
    simp only at h4
    omega
end Tr
end Go.Proofs.YtkhjpcmpljpmjaaGreatDoor
