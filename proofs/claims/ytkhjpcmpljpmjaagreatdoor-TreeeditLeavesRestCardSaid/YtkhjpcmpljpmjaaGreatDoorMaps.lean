/-
 Maps whose keys are of one kind: what lookups and updates do. No condition.
-/
import Derived.Test.YtkhjpcmpljpmjaaGreatDoorFind
import Derived.Test.YtkhjpcmpljpmjaaGreatDoorRefT
set_option linter.unusedSimpArgs false
set_option linter.unusedVariables false
namespace Go.Proofs.YtkhjpcmpljpmjaaGreatDoor
open Abs Facts Tr
theorem findD_keys {P : Program} {kt : TypeId} {α : Type} [DecidableEq α] (enc : α → D) (he : ∀ a b, eqK P kt (enc a) (enc b) = some (decide (a = b))) (v : α → D) (k : α) :
  ∀ l : List α, findD P kt (enc k) (l.map fun a => (enc a, v a)) = some (if k ∈ l then some (l.idxOf k, v k) else none)
 | [] => by simp [findD]
 | a :: l => by
  simp only [List.map_cons, findD, he]
  by_cases h : k = a
  ·subst h; simp
  ·rw [decide_eq_false h]
   simp only
   rw [findD_keys enc he v k l]
   by_cases h2 : k ∈ l
   ·simp only [h2, if_true, Option.map_some, List.mem_cons, or_true]
    rw [List.idxOf_cons, show (a == k) = false from by simpa using fun e => h e.symm]; rfl
   ·simp [h, h2]
theorem setVal_keys {α : Type} [DecidableEq α] (enc : α → D) (v : α → D) (k : α) (x : D) : ∀ l : List α, l.Nodup → k ∈ l → setVal (l.map fun a => (enc a, v a)) (l.idxOf k) x = l.map fun a => (enc a, if a = k then x else v a)
 | [], _, h => by cases h
 | a :: l, hn, h => by
  simp only [List.map_cons, List.idxOf_cons]
  by_cases e : a = k
  ·subst e
   simp only [beq_self_eq_true, cond_true, setVal, if_true, List.cons.injEq, true_and]
   refine List.map_congr_left fun b hb => ?_
   have : b ≠ a := fun e => by subst e; exact (List.nodup_cons.1 hn).1 hb
   rw [if_neg this]
  ·rw [show (a == k) = false from by simpa using e]
   simp only [cond_false, setVal, if_neg e, List.cons.injEq, true_and]
   refine setVal_keys enc v k x l (List.nodup_cons.1 hn).2 ?_
   rcases List.mem_cons.1 h with h | h
   ·exact (e h.symm).elim
   ·exact h
namespace Tr
def onceL {α : Type} [DecidableEq α] (l : List α) : List α := l.foldl (fun a x => if x ∈ a then a else a ++ [x]) []
theorem onceL_snoc {α : Type} [DecidableEq α] (l : List α) (x : α) : onceL (l ++ [x]) = if x ∈ onceL l then onceL l else onceL l ++ [x] := by unfold onceL; rw [List.foldl_append]; rfl
theorem onceL_take {α : Type} [DecidableEq α] {l : List α} {i : Nat} (h : i < l.length) : onceL (l.take (i + 1)) = if l[i] ∈ onceL (l.take i) then onceL (l.take i) else onceL (l.take i) ++ [l[i]] := by
 rw [List.take_succ_eq_append_getElem h, onceL_snoc]
theorem snoc_ind {α : Type} {p : List α → Prop} (h0 : p []) (h1 : ∀ l x, p l → p (l ++ [x])) : ∀ l, p l := fun l => by
 rw [← List.reverse_reverse l]
 induction l.reverse with
 | nil => exact h0
 | cons x l ih => rw [List.reverse_cons]; exact h1 _ _ ih
theorem onceL_spec {α : Type} [DecidableEq α] (l : List α) : (onceL l).Nodup ∧ (∀ x, x ∈ onceL l ↔ x ∈ l) ∧ (onceL l).length ≤ l.length ∧ ((onceL l).length = l.length ↔ l.Nodup) := by
 refine snoc_ind (p := fun l => (onceL l).Nodup ∧ (∀ x, x ∈ onceL l ↔ x ∈ l) ∧ (onceL l).length ≤ l.length ∧ ((onceL l).length = l.length ↔ l.Nodup)) ?_ ?_ l
 ·exact ⟨by simp [onceL], by simp [onceL], by simp [onceL], by simp [onceL]⟩
 ·intro l x ih
  obtain ⟨h1, h2, h3, h4⟩ := ih
  rw [onceL_snoc]
  by_cases h : x ∈ onceL l
  ·rw [if_pos h]
   refine ⟨h1, fun y => ?_, by simp; omega, ?_⟩
   ·rw [h2, List.mem_append, List.mem_singleton]
    refine ⟨.inl, fun hy => ?_⟩
    rcases hy with hy | rfl
    ·exact hy
    ·exact (h2 _).1 h
   ·constructor
    ·intro hl; simp at hl; omega
    ·intro hn
     rw [List.nodup_append] at hn
     exact (hn.2.2 x ((h2 x).1 h) x (by simp) rfl).elim
  ·rw [if_neg h]
   refine ⟨?_, fun y => by rw [List.mem_append, List.mem_append, h2], by simp; omega, ?_⟩
   ·rw [List.nodup_append]
    refine ⟨h1, by simp, fun a ha b hb => ?_⟩
    rw [List.mem_singleton] at hb
    subst hb
    intro e; subst e; exact h ha
   ·rw [List.length_append, List.length_append, List.nodup_append]
    constructor
    ·intro hl
     refine ⟨h4.1 (by simpa using hl), by simp, fun a ha b hb => ?_⟩
     rw [List.mem_singleton] at hb
     subst hb
     intro e; subst e; exact h ((h2 a).2 ha)
    ·intro hn
     rw [h4.2 hn.1]
end Tr
end Go.Proofs.YtkhjpcmpljpmjaaGreatDoor
