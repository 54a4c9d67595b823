/-
  What insertions and removals give, and that each undoes the other. Plain. No condition.
-/
import Derived.Test.YtkhjpcmpljpmjaaGreatDoorRefC
set_option linter.unusedSimpArgs false
set_option linter.unusedVariables false
namespace Go.Proofs.YtkhjpcmpljpmjaaGreatDoor
open Abs Facts Tr
namespace Tr
theorem anc_focus {C : Ctx} {q : T} {id : Idv} (hq : q.id = id) (h : id ∉ preC C) : (ancR id (plug C q)).length = lenC C := by
  rw [anc_plug (hq ▸ id_self q) C h, ancR_self hq, List.nil_append, spine_len]
theorem nodup_of {t : T} (h : standsT t = true) : (idsT t).Nodup := ((stands_iff t).1 h).2.2.2.1
/-- An insertion. -/
theorem ins_facts {u x : T} {parent : Idv} {n : Nat} (h : wrongT u parent n x = 0) : ∃ (C : Ctx) (q : T) (l r : List T), u = plug C (q.setKids (l ++ r)) ∧ l.length = n ∧ q.id = parent ∧ editT parent (insK n x) u = plug C (q.setKids (l ++ x :: r)) ∧
    standsT (editT parent (insK n x) u) = true ∧ wipeT x.id (editT parent (insK n x) u) = u ∧ findR x.id (editT parent (insK n x) u) = (x, true) ∧ parR x.id (editT parent (insK n x) u) = (parent, (n : Int), true) ∧ ¬ (editT parent (insK n x) u).id = x.id ∧
    (atR parent (insK n x) u).1 = editT parent (insK n x) u ∧ (∀ i ∈ idsT x, i ∉ idsT u) ∧ cntT (editT parent (insK n x) u) = cntT u + cntT x := by
  obtain ⟨⟨h1, h2, h3, h4, h5, h7, h8, h9, h10, h11⟩, hm, n', hn, hle⟩ := wrong_ok h
  obtain rfl : n = n' := by omega
  have hdis : ∀ i ∈ idsT x, i ∉ idsT u := fun i hi hm => by
    have := List.any_eq_false.1 h11 i hi
    rw [find_in, decide_eq_true hm] at this
    exact this rfl
  have hnd := nodup_of h1
  obtain ⟨C, e, hq, hpre, _⟩ := focus parent u hm
  have hqn := find_node h4
  have hk := hle _ hqn hq
  generalize hq0 : (findR parent u).1 = q at *
  have e2 : q = q.setKids (q.kids.take n ++ q.kids.drop n) := by rw [List.take_append_drop, setKids_self]
  generalize hl : q.kids.take n = l at *
  generalize hr : q.kids.drop n = r at *
  have hln : l.length = n := by rw [← hl, List.length_take]; omega
  have hkr : q.kids = l ++ r := by rw [← hl, ← hr, List.take_append_drop]
  have hue : u = plug C (q.setKids (l ++ r)) := e.trans (congrArg (plug C) e2)
  have hxu := hdis x.id (id_self x)
  have hmx : x.id ∈ idsT (q.setKids (l ++ x :: r)) := by rw [ids_set]; exact List.mem_cons_of_mem _ (mem_kid.2 (.inr (.inl (id_self x))))
  rw [hue, ids_plug, ids_set, List.flatMap_append] at hxu
  simp only [List.mem_append, List.mem_cons, not_or] at hxu
  obtain ⟨k1, ⟨k2, k3, k4⟩, k5⟩ := hxu
  have hpost : parent ∉ postC C := (nodup_plug (x := q) (by rw [← e]; exact hnd) (hq ▸ id_self q)).2
  have hed : editT parent (insK n x) u = plug C (q.setKids (l ++ x :: r)) := by
    rw [e, edit_plug (insK n x) hq C hpre hpost]
    rw [e2, ← hln, insK_mid]
    rfl
  have hst : standsT (plug C (q.setKids (l ++ x :: r))) = true := by
    refine stands_ins (by rw [← hue]; exact h1) h2 h3 h5 (by rw [← hkr]; exact h7) (by rw [← hkr]; exact h8) ?_ (by rw [← hue]; exact h10) (by rw [← hue]; exact hdis)
    have := anc_focus hq hpre
    rw [← e] at this
    omega
  rw [hed]
  refine ⟨C, q, l, r, hue, hln, hq, rfl, hst, ?_, ?_, ?_, ?_, ?_, hdis, ?_⟩
  · rw [wipe_plug (fun e => k2 e.symm) rfl k3 k4 C k1 k5, hue]
  · rw [find_plug hmx C k1, find_mid (fun e => k2 e.symm) k3 (id_self x), findR_self rfl]
  · rw [par_plug hmx (fun e => k2 e.symm) C k1, par_here (fun e => k2 e.symm) k3 rfl, hq, hln]
  · intro hid
    cases C with
    | hole => exact k2 hid.symm
    | node t a c b => exact (pre_node k1).1 hid
  · rw [at_edit (insK n x) hnd hm, hed]
  · rw [hue, cnt_plug, cnt_plug, cnt_mid]; omega
end Tr
end Go.Proofs.YtkhjpcmpljpmjaaGreatDoor
