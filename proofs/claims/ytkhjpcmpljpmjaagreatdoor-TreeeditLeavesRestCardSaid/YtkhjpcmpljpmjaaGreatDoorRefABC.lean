import Derived.Test.YtkhjpcmpljpmjaaGreatDoorStands
import Derived.Test.YtkhjpcmpljpmjaaGreatDoorEdAt
set_option maxRecDepth 100000
set_option maxHeartbeats 8000000
set_option linter.unusedSimpArgs false
set_option linter.unusedVariables false
/-
 The walks of the reference's named, Stands, in, taken, deep, put. No condition but lengths.
-/
namespace Go.Proofs.YtkhjpcmpljpmjaaGreatDoor
open Abs Facts Tr
attribute [local irreducible] awp
namespace Tr
end Tr
theorem pc_named : ∀ t : T, szB t = true → PC Tryz.prog 78 [encU t] (.bool (namedT t)) := by
 refine ind1 fun t ih hs => ?_
 obtain ⟨h0, h1, g1, h2, g2, h3, h4⟩ := (sz_iff t).1 hs
 rw [namedT_eq]
 refine zqzd 1 (by simp only [pureD.pureL, pure_encU, pureD, Bool.and_self]) rfl (zqze [] Tryz.func78 rfl (by decide +kernel) mixed (by decide +kernel) (by simp [Tryz.ntmps78]) ?_)
 show awp _ _ (Code.seq _ _) _ _
 skip
 repeat' (first | refine zqj ?_ | ((first | refine zqh fun K hK => ?_ | refine zqe (by decide +kernel) fun K hK => ?_ | refine zqr fun K hK => ?_ | refine zqq (by decide +kernel) fun K hK => ?_); (simp (disch := omega) only [go_sem, Nat.reduceBEq, Nat.reduceBeqDiff, Nat.reduceEqDiff, ↓reduceIte, reduceCtorEq, Nat.reduceAdd, Nat.reduceMul, Nat.reduceLeDiff, Nat.reduceLT, Int.reduceLT, Int.reduceLE, Int.reduceEq])) | ((first | refine zqd _ rfl (fun hc => ?_) (fun hc => ?_) | refine zqm _ rfl (fun hc => ?_) (fun hc => ?_)) <;> (first | (cases hc; done) | ((try simp only [boolS] at hc); (try (exfalso; omega))))) | refine zqa ?_ | refine zqi ?_ | refine zqb ?_ | refine zqg ?_ | refine zqc ?_ | refine zqk ?_ | refine zql ?_ | refine zqn ?_ | refine zqv ?_ | refine zqw ?_ | refine zqx ?_ | refine zqy ?_ | refine zqz ?_ | refine zqza rfl ?_ | refine zqzb ?_ | refine zqp ?_ | refine zqo ?_ | refine zqu (by (simp (disch := omega) only [go_sem, Nat.reduceBEq, Nat.reduceBeqDiff, Nat.reduceEqDiff, ↓reduceIte, reduceCtorEq, Nat.reduceAdd, Nat.reduceLeDiff, Nat.reduceLT]); rfl) rfl ?_ | (refine hK _ ?_; clear hK K) | (refine zqf (fun hb => ?_) (fun hb => ?_) <;> (have hb2 := hb; try simp only [boolS] at hb2) <;> ((first | have hb3 : (_ : Bool) = _ := hb2 | have hb3 := eq_false hb2 | have hb3 := eq_true hb2); (simp (disch := omega) only [go_sem, Nat.reduceBEq, Nat.reduceBeqDiff, Nat.reduceEqDiff, ↓reduceIte, reduceCtorEq, Nat.reduceAdd, Nat.reduceMul, Nat.reduceLeDiff, Nat.reduceLT, Int.reduceLT, Int.reduceLE, Int.reduceEq, hb, hb3]); clear hb hb3; (try (exfalso; omega)))) | (exfalso; omega))
 ·exact fin_bool (by rw [decide_eq_false ‹¬ t.kind = 0›, decide_eq_false (fun h => h ‹t.id = Idv.zero›)]; rfl)
 all_goals
  have hq : (decide (t.kind = 0) || decide (t.id ≠ Idv.zero)) = true := by first | rw [decide_eq_true ‹t.kind = 0›]; rfl | rw [decide_eq_true (p := t.id ≠ Idv.zero) ‹¬ t.id = Idv.zero›, Bool.or_true]
  rw [hq, Bool.true_and]
  (refine zqzc (fun mz st => ∃ (i : _), mz = t.kids.length - i ∧ st.t 1 = .ptr 0 0 ∧ st.t 3 = .int .i64 i ∧ st.H 0 = some (.box 27 (cellsU t)) ∧ (i ≤ t.kids.length) ∧ (1 ≤ st.nx) ∧ ((t.kids.take i).all namedT = true)) ?_ ?_); rotate_left; (rintro mz st ⟨i, rfl, q1, q3, qH0, qp0, qp1, qp2⟩); rotate_left
  ·(refine ⟨_, 0, rfl, ?_⟩); (simp (disch := omega) only [go_sem, Nat.reduceBEq, Nat.reduceBeqDiff, Nat.reduceEqDiff, ↓reduceIte, reduceCtorEq, Nat.reduceAdd, Nat.reduceMul, Nat.reduceLeDiff, Nat.reduceLT, Int.reduceLT, Int.reduceLE, Int.reduceEq, true_and, and_true, and_self, Int.natCast_add, Int.natCast_one, Int.natCast_zero, List.flatMap_nil, List.map_nil, List.append_nil, List.nil_append])
   try simp
  have hin := fun (h : i < t.kids.length) => ih t.kids[i] (List.getElem_mem h) (h4 _ (List.getElem_mem h))
  repeat' (first | refine zqj ?_ | ((first | refine zqh fun K hK => ?_ | refine zqe (by decide +kernel) fun K hK => ?_ | refine zqr fun K hK => ?_ | refine zqq (by decide +kernel) fun K hK => ?_ | refine zqs (hin (by omega)) ?_ | refine zqt (hin (by omega)) ?_); (simp (disch := omega) only [go_sem, Nat.reduceBEq, Nat.reduceBeqDiff, Nat.reduceEqDiff, ↓reduceIte, reduceCtorEq, Nat.reduceAdd, Nat.reduceMul, Nat.reduceLeDiff, Nat.reduceLT, Int.reduceLT, Int.reduceLE, Int.reduceEq, q1, q3, qH0, encUs])) | ((first | refine zqd _ rfl (fun hc => ?_) (fun hc => ?_) | refine zqm _ rfl (fun hc => ?_) (fun hc => ?_)) <;> (first | (cases hc; done) | ((try simp only [boolS] at hc); (try (exfalso; omega))))) | refine zqa ?_ | refine zqi ?_ | refine zqb ?_ | refine zqg ?_ | refine zqc ?_ | refine zqk ?_ | refine zql ?_ | refine zqn ?_ | refine zqv ?_ | refine zqw ?_ | refine zqx ?_ | refine zqy ?_ | refine zqz ?_ | refine zqza rfl ?_ | refine zqzb ?_ | refine zqp ?_ | refine zqo ?_ | refine zqu (by (simp (disch := omega) only [go_sem, Nat.reduceBEq, Nat.reduceBeqDiff, Nat.reduceEqDiff, ↓reduceIte, reduceCtorEq, Nat.reduceAdd, Nat.reduceLeDiff, Nat.reduceLT, q1, q3, qH0, encUs]); rfl) rfl ?_ | (refine hK _ ?_; clear hK K) | (refine zqf (fun hb => ?_) (fun hb => ?_) <;> (have hb2 := hb; try simp only [boolS] at hb2) <;> ((first | have hb3 : (_ : Bool) = _ := hb2 | have hb3 := eq_false hb2 | have hb3 := eq_true hb2); (simp (disch := omega) only [go_sem, Nat.reduceBEq, Nat.reduceBeqDiff, Nat.reduceEqDiff, ↓reduceIte, reduceCtorEq, Nat.reduceAdd, Nat.reduceMul, Nat.reduceLeDiff, Nat.reduceLT, Int.reduceLT, Int.reduceLE, Int.reduceEq, hb, hb3, q1, q3, qH0, encUs]); clear hb hb3; (try (exfalso; omega)))) | (exfalso; omega))
  ·exact fin_bool (all_no (k := i) (by omega) (by assumption)).symm
  ·(refine Exists.intro _ (And.intro ?_ ⟨i + 1, rfl, ?_⟩)); rotate_left; (simp (disch := omega) only [go_sem, Nat.reduceBEq, Nat.reduceBeqDiff, Nat.reduceEqDiff, ↓reduceIte, reduceCtorEq, Nat.reduceAdd, Nat.reduceMul, Nat.reduceLeDiff, Nat.reduceLT, Int.reduceLT, Int.reduceLE, Int.reduceEq, q1, q3, qH0, true_and, and_true, and_self, Int.natCast_add, Int.natCast_one, Int.natCast_zero, List.flatMap_append, List.flatMap_cons, List.flatMap_nil, List.map_append, List.map_cons, List.map_nil, List.append_nil, List.cons_append, List.nil_append]); rotate_left
   ·omega
   ·exact ⟨by omega, by omega, all_step (by omega) qp2 (by assumption)⟩
  ·exact fin_bool (all_done (by omega) qp2).symm
theorem pc_StandsR (t : T) (hs : szB t = true) (hc : cntT t ≤ 1000000000) (hd : depT t ≤ 1000000000) : PC Tryz.prog 26 [encU t] (.bool (standsT t)) := by
 have c1 := pc_May t hs hc hd
 have c2 := pc_named t hs
 rw [stands_named]
 refine zqzd 1 (by simp only [pureD.pureL, pure_encU, pureD, Bool.and_self]) rfl (zqze [] Tryz.func26 rfl (by decide +kernel) mixed (by decide +kernel) (by simp [Tryz.ntmps26]) ?_)
 show awp _ _ (Code.seq _ _) _ _
 skip
 repeat' (first | refine zqj ?_ | ((first | refine zqh fun K hK => ?_ | refine zqe (by decide +kernel) fun K hK => ?_ | refine zqr fun K hK => ?_ | refine zqq (by decide +kernel) fun K hK => ?_ | refine zqs (c1) ?_ | refine zqt (c1) ?_ | refine zqs (c2) ?_ | refine zqt (c2) ?_); (simp (disch := omega) only [go_sem, Nat.reduceBEq, Nat.reduceBeqDiff, Nat.reduceEqDiff, ↓reduceIte, reduceCtorEq, Nat.reduceAdd, Nat.reduceMul, Nat.reduceLeDiff, Nat.reduceLT, Int.reduceLT, Int.reduceLE, Int.reduceEq])) | ((first | refine zqd _ rfl (fun hc => ?_) (fun hc => ?_) | refine zqm _ rfl (fun hc => ?_) (fun hc => ?_)) <;> (first | (cases hc; done) | ((try simp only [boolS] at hc); (try (exfalso; omega))))) | refine zqa ?_ | refine zqi ?_ | refine zqb ?_ | refine zqg ?_ | refine zqc ?_ | refine zqk ?_ | refine zql ?_ | refine zqn ?_ | refine zqv ?_ | refine zqw ?_ | refine zqx ?_ | refine zqy ?_ | refine zqz ?_ | refine zqza rfl ?_ | refine zqzb ?_ | refine zqp ?_ | refine zqo ?_ | refine zqu (by (simp (disch := omega) only [go_sem, Nat.reduceBEq, Nat.reduceBeqDiff, Nat.reduceEqDiff, ↓reduceIte, reduceCtorEq, Nat.reduceAdd, Nat.reduceLeDiff, Nat.reduceLT]); rfl) rfl ?_ | (refine hK _ ?_; clear hK K) | (refine zqf (fun hb => ?_) (fun hb => ?_) <;> (have hb2 := hb; try simp only [boolS] at hb2) <;> ((first | have hb3 : (_ : Bool) = _ := hb2 | have hb3 := eq_false hb2 | have hb3 := eq_true hb2); (simp (disch := omega) only [go_sem, Nat.reduceBEq, Nat.reduceBeqDiff, Nat.reduceEqDiff, ↓reduceIte, reduceCtorEq, Nat.reduceAdd, Nat.reduceMul, Nat.reduceLeDiff, Nat.reduceLT, Int.reduceLT, Int.reduceLE, Int.reduceEq, hb, hb3]); clear hb hb3; (try (exfalso; omega)))) | (exfalso; omega))
 ·exact fin_bool (by rw [‹validT t = true›]; rfl)
 ·exact fin_bool (by rw [‹validT t = false›]; rfl)
end Go.Proofs.YtkhjpcmpljpmjaaGreatDoor
/-
 The walks of the reference's Grown, Without, With, shared. No condition but lengths.
-/
namespace Go.Proofs.YtkhjpcmpljpmjaaGreatDoor
open Abs Facts Tr
attribute [local irreducible] awp
end Go.Proofs.YtkhjpcmpljpmjaaGreatDoor
/-
 The walks of the reference's Wrong, Insert, Take. No condition but lengths.
-/
namespace Go.Proofs.YtkhjpcmpljpmjaaGreatDoor
open Abs Facts Tr
attribute [local irreducible] awp

namespace Tr
def wrongT (u : T) (parent : Idv) (i : Int) (x : T) : Int :=
 if standsT u = false ∨ standsT x = false ∨ x.kind = 0 then 1 else
 if (findR parent u).2 = false then 4 else
 if nestsB (findR parent u).1.kind x.kind = false then 9 else
 if i < 0 ∨ ((findR parent u).1.kids.length : Int) < i then 3 else
 if takenT (findR parent u).1.kids x.kind x.label = true then 10 else
 if 64 ≤ (findR parent u).1.kids.length ∨ 8 < (ancR parent u).length + 1 + depT x ∨ 1024 < cntT u + cntT x then 6 else
 if ((idsT x).any fun i => (findR i u).2) = true then 5 else 0
theorem find_node {id : Idv} {u : T} (h : (findR id u).2 = true) : (findR id u).1 ∈ nodesT u := by
 have hm := findR_way'.1 h
 unfold findR
 rw [last_get _ hm]
 exact way_mem id u _ (List.getElem_mem _)
theorem node_find {id : Idv} {u q : T} (hn : (idsT u).Nodup) (hq : q ∈ nodesT u) (hid : q.id = id) : findR id u = (q, true) := by
 have key : ∀ u : T, (idsT u).Nodup → q ∈ nodesT u → findR id u = (q, true) := by
  refine ind1 fun u ih hn hq => ?_
  rw [nodesT_eq, List.mem_cons] at hq
  rcases hq with rfl | hq
  ·exact findR_self hid
  ·obtain ⟨k, hk, hqk⟩ := List.mem_flatMap.1 hq
   obtain ⟨i, hi, rfl⟩ := List.getElem_of_mem hk
   obtain ⟨g1, g2, g3⟩ := nodup_kids hn
   have hin : id ∈ idsT u.kids[i] := List.mem_map.2 ⟨q, hqk, hid⟩
   have h2 := ih _ hk (g2 _ hk) hqk
   have hw : wayT id u.kids[i] ≠ [] := way_ne.2 hin
   rw [findR_cons (wayT_kid (fun e => g1 _ hk (e ▸ hin)) hi (fun j hj h => (way_nil id _).2 (g3 i j hi h (by omega) id hin)) hw) hw, h2]
 exact key u hn hq
def takeE (u : T) (id : Idv) : Int := if standsT u = false then 1 else if (findR id u).2 = false then 4 else if u.id = id then 9 else 0
theorem wrong_ok {u x : T} {parent : Idv} {i : Int} (h : wrongT u parent i x = 0) : (standsT u = true ∧ standsT x = true ∧ x.kind ≠ 0 ∧ (findR parent u).2 = true ∧ nestsB (findR parent u).1.kind x.kind = true ∧ takenT (findR parent u).1.kids x.kind x.label = false ∧ (findR parent u).1.kids.length < 64 ∧ (ancR parent u).length + 1 + depT x ≤ 8 ∧ cntT u + cntT x ≤ 1024 ∧ ((idsT x).any fun i => (findR i u).2) = false) ∧
  parent ∈ idsT u ∧ ∃ n : Nat, i = n ∧ ∀ q ∈ nodesT u, q.id = parent → n ≤ q.kids.length := by
 unfold wrongT at h
 split at h
 ·cases h
 rename_i h1
 split at h
 ·cases h
 rename_i h2
 split at h
 ·cases h
 rename_i h3
 split at h
 ·cases h
 rename_i h4
 split at h
 ·cases h
 rename_i h5
 split at h
 ·cases h
 rename_i h6
 split at h
 ·cases h
 rename_i h7
 simp only [not_or, Bool.not_eq_false, Bool.not_eq_true] at h1 h2 h3 h5 h7
 refine ⟨⟨h1.1, h1.2.1, h1.2.2, h2, h3, h5, by omega, by omega, by omega, h7⟩, ?_, i.toNat, by omega, fun q hq hid => ?_⟩
 ·rw [find_in, decide_eq_true_eq] at h2; exact h2
 ·rw [node_find ((stands_iff u).1 h1.1).2.2.2.1 hq hid] at h4
  simp only at h4
  omega
end Tr
end Go.Proofs.YtkhjpcmpljpmjaaGreatDoor
