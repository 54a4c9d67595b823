/-
  The walks of the reference's Nests, Name, alone, Right, Count, Depth, All, Ids, May. No condition but lengths.
-/
import Derived.Test.YtkhjpcmpljpmjaaDoorCopy
set_option linter.unusedSimpArgs false
set_option linter.unusedVariables false
namespace Go.Proofs.YtkhjpcmpljpmjaaDoor
open Abs Facts Tr
attribute [local irreducible] awp
namespace Tr
/-- Sizes that fit. -/
def szB (t : T) : Bool := recT (fun t l => decide (t.label.size ≤ 1000000) && (decide (t.head.length ≤ 1000000) && ((t.head.all fun w => decide (w.text.size ≤ 1000000)) && (decide (t.words.length ≤ 1000000) && ((t.words.all fun w => decide (w.text.size ≤ 1000000)) && (decide (t.kids.length ≤ 1000000) && l.all id)))))) t
theorem sz_iff (t : T) : szB t = true ↔ t.label.size ≤ 1000000 ∧ t.head.length ≤ 1000000 ∧ (∀ w ∈ t.head, w.text.size ≤ 1000000) ∧ t.words.length ≤ 1000000 ∧ (∀ w ∈ t.words, w.text.size ≤ 1000000) ∧ t.kids.length ≤ 1000000 ∧ ∀ k ∈ t.kids, szB k = true := by
  unfold szB
  rw [recT_eq]
  simp only [List.all_map, Bool.and_eq_true, decide_eq_true_iff, List.all_eq_true]
  rfl
theorem sz_sm : ∀ t : T, szB t = true → smB t = true := by
  refine ind1 fun t ih h => ?_
  obtain ⟨_, h1, _, h2, _, h3, h4⟩ := (sz_iff t).1 h
  exact (sm_iff t).2 ⟨h1, h2, h3, fun k hk => ih k hk (h4 k hk)⟩
theorem sz_fit (t : T) (h : szB t = true) : fitB t = true := sm_fit t (sz_sm t h)
def emptyB : ByteArray := ⟨#[]⟩
def aloneR (t : T) : Bool := decide (0 ≤ t.kind ∧ t.kind ≤ 7) && (decide (t.kids.length ≤ 64) && (rowB t.head && (rowB t.words && (if t.kind = 0 then decide (t.label = emptyB) && (decide (t.head.length = 0) && decide (t.words.length = 0)) else labelB t.label))))
def keyK (t : T) : Int × ByteArray := (t.kind, t.label)
def rightT (t : T) : Bool := recT (fun t l => aloneR t && ((t.kids.all fun k => nestsB t.kind k.kind) && (l.all id && decide ((t.kids.map keyK).Nodup)))) t
theorem rightT_eq (t : T) : rightT t = (aloneR t && ((t.kids.all fun k => nestsB t.kind k.kind) && (t.kids.all rightT && decide ((t.kids.map keyK).Nodup)))) := by
  unfold rightT
  rw [recT_eq, List.all_map]; rfl
theorem nodup_take {α β : Type} {f : α → β} {l : List α} {k : Nat} (hk : k < l.length) (h : ((l.take k).map f).Nodup) (h2 : ∀ j, (hj : j < k) → f (l[j]'(by omega)) ≠ f l[k]) : ((l.take (k + 1)).map f).Nodup := by
  rw [List.take_succ_eq_append_getElem hk, List.map_append, List.nodup_append]
  refine ⟨h, by simp, fun a ha b hb => ?_⟩
  simp only [List.map_cons, List.map_nil, List.mem_singleton] at hb
  subst hb
  obtain ⟨x, hx, rfl⟩ := List.mem_map.1 ha
  obtain ⟨j, hj, rfl⟩ := List.getElem_of_mem hx
  rw [List.length_take] at hj
  rw [List.getElem_take]
  exact h2 j (by omega)
theorem nodup_no {α β : Type} {f : α → β} {l : List α} {j k : Nat} (hj : j < k) (hk : k < l.length) (h : f (l[j]'(by omega)) = f l[k]) : ¬ (l.map f).Nodup := fun hn => by
  have h2 := (List.pairwise_iff_getElem.1 hn) j k (by simp; omega) (by simpa using hk) hj
  simp only [List.getElem_map] at h2
  exact h2 h
end Tr
namespace Tr
theorem cntT_eq (t : T) : cntT t = 1 + (t.kids.flatMap nodesT).length := by unfold cntT; rw [nodesT_eq, List.length_cons, Nat.add_comm]
theorem flat_len_take (l : List T) (i : Nat) : ((l.take i).flatMap nodesT).length ≤ (l.flatMap nodesT).length := by
  have : l.flatMap nodesT = (l.take i).flatMap nodesT ++ (l.drop i).flatMap nodesT := by rw [← List.flatMap_append, List.take_append_drop]
  rw [this, List.length_append]; omega
theorem flat_len_succ (l : List T) (i : Nat) (h : i < l.length) : ((l.take (i + 1)).flatMap nodesT).length = ((l.take i).flatMap nodesT).length + cntT l[i] := by
  rw [List.take_succ_eq_append_getElem h, List.flatMap_append, List.length_append]; simp [cntT]
theorem cnt_kid {t k : T} (h : k ∈ t.kids) : 1 + cntT k ≤ cntT t := by
  rw [cntT_eq t]
  obtain ⟨i, hi, rfl⟩ := List.getElem_of_mem h
  have h1 := flat_len_succ t.kids i hi
  have h2 := flat_len_take t.kids (i + 1)
  omega
theorem cnt_pos (t : T) : 1 ≤ cntT t := by rw [cntT_eq]; omega
theorem idsT_eq (t : T) : idsT t = t.id :: t.kids.flatMap idsT := by
  unfold idsT
  rw [nodesT_eq, List.map_cons, List.map_flatMap]
theorem idsT_len (t : T) : (idsT t).length = cntT t := by unfold idsT cntT; rw [List.length_map]
def idsB (t : T) : Bool := (idsT t).all (fun i => decide (i = Idv.zero)) || (decide ((t.id = Idv.zero) ↔ (t.kind = 0)) && decide ((idsT t).Nodup))
def validT (t : T) : Bool := rightT t && (decide (depT t ≤ 8) && (decide (cntT t ≤ 1024) && idsB t))
end Tr
end Go.Proofs.YtkhjpcmpljpmjaaDoor
