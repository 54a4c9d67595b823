/-
 The walks of the reference's Ids, May. No condition but lengths.
-/
import Derived.Test.YtkhjpcmpljpmjaaGreatDoorRefT
set_option maxRecDepth 100000
set_option maxHeartbeats 8000000
set_option linter.unusedSimpArgs false
set_option linter.unusedVariables false
namespace Go.Proofs.YtkhjpcmpljpmjaaGreatDoor
open Abs Facts Tr
attribute [local irreducible] awp
namespace Tr
theorem all_take_succ {α : Type} (f : α → Bool) {l : List α} {k : Nat} (h : k < l.length) : (l.take (k + 1)).all f = ((l.take k).all f && f l[k]) := by
 rw [List.take_succ_eq_append_getElem h, List.all_append, List.all_cons, List.all_nil, Bool.and_true]
theorem nodup_take' {α : Type} {l : List α} {k : Nat} (hk : k < l.length) (h : (l.take k).Nodup) (h2 : ∀ j, (hj : j < k) → l[j]'(by omega) ≠ l[k]) : (l.take (k + 1)).Nodup := by
 have := nodup_take (f := id) hk (by simpa using h) h2
 simpa using this
theorem nodup_no' {α : Type} {l : List α} {j k : Nat} (hj : j < k) (hk : k < l.length) (h : l[j]'(by omega) = l[k]) : ¬ l.Nodup := fun hn => by
 have := nodup_no (f := id) hj hk h
 simp at this; exact this hn
end Tr
theorem pc_IdsR (t : T) (hs : szB t = true) (hc : cntT t ≤ 1000000000) : PC Tryz.prog 120 [encU t] (.bool (idsB t)) := by
 have ha := pc_All t hs hc
 have hl := idsT_len t
 have hp := cnt_pos t
 have hid0 : ∀ h, (idsT t)[Int.toNat 0]'h = t.id := fun h => by simp [idsT_eq]
 refine zqzd 1 (by simp only [pureD.pureL, pure_encU, pureD, Bool.and_self]) rfl (zqze [] Tryz.func120 rfl (by decide +kernel) mixed (by decide +kernel) (by simp [Tryz.ntmps120]) ?_)
 show awp _ _ (Code.seq _ _) _ _
 skip
 repeat' (first | refine zqj ?_ | ((first | refine zqh fun K hK => ?_ | refine zqe (by decide +kernel) fun K hK => ?_ | refine zqr fun K hK => ?_ | refine zqq (by decide +kernel) fun K hK => ?_ | refine zqs (ha) ?_ | refine zqt (ha) ?_); (simp (disch := omega) only [go_sem, Nat.reduceBEq, Nat.reduceBeqDiff, Nat.reduceEqDiff, ↓reduceIte, reduceCtorEq, Nat.reduceAdd, Nat.reduceMul, Nat.reduceLeDiff, Nat.reduceLT, Int.reduceLT, Int.reduceLE, Int.reduceEq])) | ((first | refine zqd _ rfl (fun hc => ?_) (fun hc => ?_) | refine zqm _ rfl (fun hc => ?_) (fun hc => ?_)) <;> (first | (cases hc; done) | ((try simp only [boolS] at hc); (try (exfalso; omega))))) | refine zqa ?_ | refine zqi ?_ | refine zqb ?_ | refine zqg ?_ | refine zqc ?_ | refine zqk ?_ | refine zql ?_ | refine zqn ?_ | refine zqv ?_ | refine zqw ?_ | refine zqx ?_ | refine zqy ?_ | refine zqz ?_ | refine zqza rfl ?_ | refine zqzb ?_ | refine zqp ?_ | refine zqo ?_ | refine zqu (by (simp (disch := omega) only [go_sem, Nat.reduceBEq, Nat.reduceBeqDiff, Nat.reduceEqDiff, ↓reduceIte, reduceCtorEq, Nat.reduceAdd, Nat.reduceLeDiff, Nat.reduceLT]); rfl) rfl ?_ | (refine hK _ ?_; clear hK K) | (refine zqf (fun hb => ?_) (fun hb => ?_) <;> (have hb2 := hb; try simp only [boolS] at hb2) <;> ((first | have hb3 : (_ : Bool) = _ := hb2 | have hb3 := eq_false hb2 | have hb3 := eq_true hb2); (simp (disch := omega) only [go_sem, Nat.reduceBEq, Nat.reduceBeqDiff, Nat.reduceEqDiff, ↓reduceIte, reduceCtorEq, Nat.reduceAdd, Nat.reduceMul, Nat.reduceLeDiff, Nat.reduceLT, Int.reduceLT, Int.reduceLE, Int.reduceEq, hb, hb3]); clear hb hb3; (try (exfalso; omega)))) | (exfalso; omega))
 (refine zqzc (fun mz st => ∃ (i : _), mz = (idsT t).length - i ∧ st.t 1 = .ptr 0 0 ∧ st.t 3 = encIds (idsT t) ∧ st.t 4 = .bool (((idsT t).take i).all fun i => decide (i = Idv.zero)) ∧ st.t 5 = .int .i64 i ∧ st.H 0 = some (.box 27 (cellsU t)) ∧ (i ≤ (idsT t).length) ∧ (1 ≤ st.nx)) ?_ ?_); rotate_left; (rintro mz st ⟨i, rfl, q1, q3, q4, q5, qH0, qp0, qp1⟩); rotate_left
 ·(refine ⟨_, 0, rfl, ?_⟩); (simp (disch := omega) only [go_sem, Nat.reduceBEq, Nat.reduceBeqDiff, Nat.reduceEqDiff, ↓reduceIte, reduceCtorEq, Nat.reduceAdd, Nat.reduceMul, Nat.reduceLeDiff, Nat.reduceLT, Int.reduceLT, Int.reduceLE, Int.reduceEq, true_and, and_true, and_self, Int.natCast_add, Int.natCast_one, Int.natCast_zero, List.flatMap_nil, List.map_nil, List.append_nil, List.nil_append, encIds])
  try simp
 repeat' (first | refine zqj ?_ | ((first | refine zqh fun K hK => ?_ | refine zqe (by decide +kernel) fun K hK => ?_ | refine zqr fun K hK => ?_ | refine zqq (by decide +kernel) fun K hK => ?_); (simp (disch := omega) only [go_sem, Nat.reduceBEq, Nat.reduceBeqDiff, Nat.reduceEqDiff, ↓reduceIte, reduceCtorEq, Nat.reduceAdd, Nat.reduceMul, Nat.reduceLeDiff, Nat.reduceLT, Int.reduceLT, Int.reduceLE, Int.reduceEq, q1, q3, q4, q5, qH0, encIds, hid0])) | ((first | refine zqd _ rfl (fun hc => ?_) (fun hc => ?_) | refine zqm _ rfl (fun hc => ?_) (fun hc => ?_)) <;> (first | (cases hc; done) | ((try simp only [boolS] at hc); (try (exfalso; omega))))) | refine zqa ?_ | refine zqi ?_ | refine zqb ?_ | refine zqg ?_ | refine zqc ?_ | refine zqk ?_ | refine zql ?_ | refine zqn ?_ | refine zqv ?_ | refine zqw ?_ | refine zqx ?_ | refine zqy ?_ | refine zqz ?_ | refine zqza rfl ?_ | refine zqzb ?_ | refine zqp ?_ | refine zqo ?_ | refine zqu (by (simp (disch := omega) only [go_sem, Nat.reduceBEq, Nat.reduceBeqDiff, Nat.reduceEqDiff, ↓reduceIte, reduceCtorEq, Nat.reduceAdd, Nat.reduceLeDiff, Nat.reduceLT, q1, q3, q4, q5, qH0, encIds, hid0]); rfl) rfl ?_ | (refine hK _ ?_; clear hK K) | (refine zqf (fun hb => ?_) (fun hb => ?_) <;> (have hb2 := hb; try simp only [boolS] at hb2) <;> ((first | have hb3 : (_ : Bool) = _ := hb2 | have hb3 := eq_false hb2 | have hb3 := eq_true hb2); (simp (disch := omega) only [go_sem, Nat.reduceBEq, Nat.reduceBeqDiff, Nat.reduceEqDiff, ↓reduceIte, reduceCtorEq, Nat.reduceAdd, Nat.reduceMul, Nat.reduceLeDiff, Nat.reduceLT, Int.reduceLT, Int.reduceLE, Int.reduceEq, hb, hb3, q1, q3, q4, q5, qH0, encIds, hid0]); clear hb hb3; (try (exfalso; omega)))) | (exfalso; omega))
 ·(refine Exists.intro _ (And.intro ?_ ⟨i + 1, rfl, ?_⟩)); rotate_left; (simp (disch := omega) only [go_sem, Nat.reduceBEq, Nat.reduceBeqDiff, Nat.reduceEqDiff, ↓reduceIte, reduceCtorEq, Nat.reduceAdd, Nat.reduceMul, Nat.reduceLeDiff, Nat.reduceLT, Int.reduceLT, Int.reduceLE, Int.reduceEq, q1, q3, q4, q5, qH0, true_and, and_true, and_self, Int.natCast_add, Int.natCast_one, Int.natCast_zero, List.flatMap_append, List.flatMap_cons, List.flatMap_nil, List.map_append, List.map_cons, List.map_nil, List.append_nil, List.cons_append, List.nil_append]); rotate_left
  ·omega
  ·rw [all_take_succ _ (by omega), ‹((idsT t).take i).all _ = true›]
   exact ⟨rfl, by omega, by omega⟩
 ·(refine Exists.intro _ (And.intro ?_ ⟨i + 1, rfl, ?_⟩)); rotate_left; (simp (disch := omega) only [go_sem, Nat.reduceBEq, Nat.reduceBeqDiff, Nat.reduceEqDiff, ↓reduceIte, reduceCtorEq, Nat.reduceAdd, Nat.reduceMul, Nat.reduceLeDiff, Nat.reduceLT, Int.reduceLT, Int.reduceLE, Int.reduceEq, q1, q3, q4, q5, qH0, true_and, and_true, and_self, Int.natCast_add, Int.natCast_one, Int.natCast_zero, List.flatMap_append, List.flatMap_cons, List.flatMap_nil, List.map_append, List.map_cons, List.map_nil, List.append_nil, List.cons_append, List.nil_append]); rotate_left
  ·omega
  ·rw [all_take_succ _ (by omega), ‹((idsT t).take i).all _ = false›]
   exact ⟨rfl, by omega, by omega⟩
 ·refine fin_bool ?_
  have hz : ((idsT t).all fun i => decide (i = Idv.zero)) = true := by rw [← List.take_of_length_le (l := idsT t) (i := i) (by omega)]; assumption
  unfold idsB; rw [hz]; rfl
 ·refine fin_bool ?_
  have hz : ((idsT t).all fun i => decide (i = Idv.zero)) = false := by rw [← List.take_of_length_le (l := idsT t) (i := i) (by omega)]; assumption
  have hk : ¬ (t.id = Idv.zero ↔ t.kind = 0) := fun h => by
   have : decide (t.id = Idv.zero) = decide (t.kind = 0) := decide_eq_decide.2 h
   contradiction
  unfold idsB
  rw [hz, decide_eq_false hk]; rfl
 ·have hz : ((idsT t).all fun i => decide (i = Idv.zero)) = false := by rw [← List.take_of_length_le (l := idsT t) (i := i) (by omega)]; assumption
  have hbne : ∀ {a b : Bool}, (a != b) = false → a = b := fun {a b} h => by cases a <;> cases b <;> first | rfl | cases h
  have hk : (t.id = Idv.zero ↔ t.kind = 0) := by
   have h := hbne ‹(decide (t.id = Idv.zero) != decide (t.kind = 0)) = false›
   exact decide_eq_decide.1 h
  rw [show idsB t = decide ((idsT t).Nodup) from by unfold idsB; rw [hz, decide_eq_true hk]; rfl]
  skip
  (refine zqzc (fun mz st => ∃ (j : Nat), mz = (idsT t).length - j ∧ st.t 1 = .ptr 0 0 ∧ st.t 3 = encIds (idsT t) ∧ st.t 6 = .int .i64 j ∧ st.H 0 = some (.box 27 (cellsU t)) ∧ (j ≤ (idsT t).length) ∧ (((idsT t).take j).Nodup) ∧ (1 ≤ st.nx)) ?_ ?_); rotate_left; (rintro mz st ⟨j, rfl, r1, r3, r6, rH0, rp0, rp1, rp2⟩); rotate_left
  ·(refine ⟨_, 0, rfl, ?_⟩); (simp (disch := omega) only [go_sem, Nat.reduceBEq, Nat.reduceBeqDiff, Nat.reduceEqDiff, ↓reduceIte, reduceCtorEq, Nat.reduceAdd, Nat.reduceMul, Nat.reduceLeDiff, Nat.reduceLT, Int.reduceLT, Int.reduceLE, Int.reduceEq, true_and, and_true, and_self, Int.natCast_add, Int.natCast_one, Int.natCast_zero, List.flatMap_nil, List.map_nil, List.append_nil, List.nil_append, encIds, q1, q3, qH0])
   (repeat' (first | omega | assumption | exact rfl | refine And.intro ?_ ?_))
   all_goals simp
  repeat' (first | refine zqj ?_ | ((first | refine zqh fun K hK => ?_ | refine zqe (by decide +kernel) fun K hK => ?_ | refine zqr fun K hK => ?_ | refine zqq (by decide +kernel) fun K hK => ?_); (simp (disch := omega) only [go_sem, Nat.reduceBEq, Nat.reduceBeqDiff, Nat.reduceEqDiff, ↓reduceIte, reduceCtorEq, Nat.reduceAdd, Nat.reduceMul, Nat.reduceLeDiff, Nat.reduceLT, Int.reduceLT, Int.reduceLE, Int.reduceEq, r1, r3, r6, rH0, encIds])) | ((first | refine zqd _ rfl (fun hc => ?_) (fun hc => ?_) | refine zqm _ rfl (fun hc => ?_) (fun hc => ?_)) <;> (first | (cases hc; done) | ((try simp only [boolS] at hc); (try (exfalso; omega))))) | refine zqa ?_ | refine zqi ?_ | refine zqb ?_ | refine zqg ?_ | refine zqc ?_ | refine zqk ?_ | refine zql ?_ | refine zqn ?_ | refine zqv ?_ | refine zqw ?_ | refine zqx ?_ | refine zqy ?_ | refine zqz ?_ | refine zqza rfl ?_ | refine zqzb ?_ | refine zqp ?_ | refine zqo ?_ | refine zqu (by (simp (disch := omega) only [go_sem, Nat.reduceBEq, Nat.reduceBeqDiff, Nat.reduceEqDiff, ↓reduceIte, reduceCtorEq, Nat.reduceAdd, Nat.reduceLeDiff, Nat.reduceLT, r1, r3, r6, rH0, encIds]); rfl) rfl ?_ | (refine hK _ ?_; clear hK K) | (refine zqf (fun hb => ?_) (fun hb => ?_) <;> (have hb2 := hb; try simp only [boolS] at hb2) <;> ((first | have hb3 : (_ : Bool) = _ := hb2 | have hb3 := eq_false hb2 | have hb3 := eq_true hb2); (simp (disch := omega) only [go_sem, Nat.reduceBEq, Nat.reduceBeqDiff, Nat.reduceEqDiff, ↓reduceIte, reduceCtorEq, Nat.reduceAdd, Nat.reduceMul, Nat.reduceLeDiff, Nat.reduceLT, Int.reduceLT, Int.reduceLE, Int.reduceEq, hb, hb3, r1, r3, r6, rH0, encIds]); clear hb hb3; (try (exfalso; omega)))) | (exfalso; omega))
  ·(refine zqzc (fun mz st => ∃ (k : Nat), mz = j - k ∧ st.t 1 = .ptr 0 0 ∧ st.t 3 = encIds (idsT t) ∧ st.t 6 = .int .i64 j ∧ st.t 7 = .int .i64 k ∧ st.H 0 = some (.box 27 (cellsU t)) ∧ (k ≤ j) ∧ (1 ≤ st.nx) ∧ (∀ m, (hm : m < k) → (h : m < (idsT t).length) → (h2 : j < (idsT t).length) → (idsT t)[m] ≠ (idsT t)[j])) ?_ ?_); rotate_left; (rintro mz st ⟨k, rfl, w1, w3, w6, w7, wH0, wp0, wp1, wp2⟩); rotate_left
   ·(refine ⟨_, 0, rfl, ?_⟩); (simp (disch := omega) only [go_sem, Nat.reduceBEq, Nat.reduceBeqDiff, Nat.reduceEqDiff, ↓reduceIte, reduceCtorEq, Nat.reduceAdd, Nat.reduceMul, Nat.reduceLeDiff, Nat.reduceLT, Int.reduceLT, Int.reduceLE, Int.reduceEq, r1, r3, r6, rH0, true_and, and_true, and_self, Int.natCast_add, Int.natCast_one, Int.natCast_zero, List.flatMap_nil, List.map_nil, List.append_nil, List.nil_append, encIds])
    (repeat' (first | omega | assumption | exact rfl | refine And.intro ?_ ?_))
    all_goals exact fun m hm => by omega
   repeat' (first | refine zqj ?_ | ((first | refine zqh fun K hK => ?_ | refine zqe (by decide +kernel) fun K hK => ?_ | refine zqr fun K hK => ?_ | refine zqq (by decide +kernel) fun K hK => ?_); (simp (disch := omega) only [go_sem, Nat.reduceBEq, Nat.reduceBeqDiff, Nat.reduceEqDiff, ↓reduceIte, reduceCtorEq, Nat.reduceAdd, Nat.reduceMul, Nat.reduceLeDiff, Nat.reduceLT, Int.reduceLT, Int.reduceLE, Int.reduceEq, w1, w3, w6, w7, wH0, encIds])) | ((first | refine zqd _ rfl (fun hc => ?_) (fun hc => ?_) | refine zqm _ rfl (fun hc => ?_) (fun hc => ?_)) <;> (first | (cases hc; done) | ((try simp only [boolS] at hc); (try (exfalso; omega))))) | refine zqa ?_ | refine zqi ?_ | refine zqb ?_ | refine zqg ?_ | refine zqc ?_ | refine zqk ?_ | refine zql ?_ | refine zqn ?_ | refine zqv ?_ | refine zqw ?_ | refine zqx ?_ | refine zqy ?_ | refine zqz ?_ | refine zqza rfl ?_ | refine zqzb ?_ | refine zqp ?_ | refine zqo ?_ | refine zqu (by (simp (disch := omega) only [go_sem, Nat.reduceBEq, Nat.reduceBeqDiff, Nat.reduceEqDiff, ↓reduceIte, reduceCtorEq, Nat.reduceAdd, Nat.reduceLeDiff, Nat.reduceLT, w1, w3, w6, w7, wH0, encIds]); rfl) rfl ?_ | (refine hK _ ?_; clear hK K) | (refine zqf (fun hb => ?_) (fun hb => ?_) <;> (have hb2 := hb; try simp only [boolS] at hb2) <;> ((first | have hb3 : (_ : Bool) = _ := hb2 | have hb3 := eq_false hb2 | have hb3 := eq_true hb2); (simp (disch := omega) only [go_sem, Nat.reduceBEq, Nat.reduceBeqDiff, Nat.reduceEqDiff, ↓reduceIte, reduceCtorEq, Nat.reduceAdd, Nat.reduceMul, Nat.reduceLeDiff, Nat.reduceLT, Int.reduceLT, Int.reduceLE, Int.reduceEq, hb, hb3, w1, w3, w6, w7, wH0, encIds]); clear hb hb3; (try (exfalso; omega)))) | (exfalso; omega))
   ·exact fin_bool (decide_eq_false (nodup_no' (j := k) (k := j) (by omega) (by omega) (by assumption))).symm
   ·(refine Exists.intro _ (And.intro ?_ ⟨k + 1, rfl, ?_⟩)); rotate_left; (simp (disch := omega) only [go_sem, Nat.reduceBEq, Nat.reduceBeqDiff, Nat.reduceEqDiff, ↓reduceIte, reduceCtorEq, Nat.reduceAdd, Nat.reduceMul, Nat.reduceLeDiff, Nat.reduceLT, Int.reduceLT, Int.reduceLE, Int.reduceEq, w1, w3, w6, w7, wH0, true_and, and_true, and_self, Int.natCast_add, Int.natCast_one, Int.natCast_zero, List.flatMap_append, List.flatMap_cons, List.flatMap_nil, List.map_append, List.map_cons, List.map_nil, List.append_nil, List.cons_append, List.nil_append, encIds]); rotate_left
    ·omega
    ·refine ⟨by omega, by omega, fun m hm h h2 => ?_⟩
     by_cases e : m = k
     ·subst e; assumption
     ·exact wp2 m (by omega) h h2
   ·skip
    have hj : j < (idsT t).length := by omega
    (refine Exists.intro _ (And.intro ?_ ⟨j + 1, rfl, ?_⟩)); rotate_left; (simp (disch := omega) only [go_sem, Nat.reduceBEq, Nat.reduceBeqDiff, Nat.reduceEqDiff, ↓reduceIte, reduceCtorEq, Nat.reduceAdd, Nat.reduceMul, Nat.reduceLeDiff, Nat.reduceLT, Int.reduceLT, Int.reduceLE, Int.reduceEq, r1, r3, r6, rH0, true_and, and_true, and_self, Int.natCast_add, Int.natCast_one, Int.natCast_zero, List.flatMap_append, List.flatMap_cons, List.flatMap_nil, List.map_append, List.map_cons, List.map_nil, List.append_nil, List.cons_append, List.nil_append, w1, w3, wH0]); rotate_left
    ·omega
    ·exact ⟨by omega, nodup_take' hj rp1 (fun m hm => wp2 m (by omega) (by omega) hj), by omega⟩
  ·refine fin_bool ?_
   rw [List.take_of_length_le (by omega)] at rp1
   exact (decide_eq_true rp1).symm
theorem pc_May (t : T) (hs : szB t = true) (hc : cntT t ≤ 1000000000) (hd : depT t ≤ 1000000000) : PC Tryz.prog 77 [encU t] (.bool (validT t)) := by
 have h1 := pc_Right t hs
 have h2 := pc_DepthR t hs hd
 have h3 := pc_CountR t hs hc
 have h4 := pc_IdsR t hs hc
 refine zqzd 1 (by simp only [pureD.pureL, pure_encU, pureD, Bool.and_self]) rfl (zqze [] Tryz.func77 rfl (by decide +kernel) mixed (by decide +kernel) (by simp [Tryz.ntmps77]) ?_)
 show awp _ _ (Code.seq _ _) _ _
 skip
 repeat' (first | refine zqj ?_ | ((first | refine zqh fun K hK => ?_ | refine zqe (by decide +kernel) fun K hK => ?_ | refine zqr fun K hK => ?_ | refine zqq (by decide +kernel) fun K hK => ?_ | refine zqs (h1) ?_ | refine zqt (h1) ?_ | refine zqs (h2) ?_ | refine zqt (h2) ?_ | refine zqs (h3) ?_ | refine zqt (h3) ?_ | refine zqs (h4) ?_ | refine zqt (h4) ?_); (simp (disch := omega) only [go_sem, Nat.reduceBEq, Nat.reduceBeqDiff, Nat.reduceEqDiff, ↓reduceIte, reduceCtorEq, Nat.reduceAdd, Nat.reduceMul, Nat.reduceLeDiff, Nat.reduceLT, Int.reduceLT, Int.reduceLE, Int.reduceEq])) | ((first | refine zqd _ rfl (fun hc => ?_) (fun hc => ?_) | refine zqm _ rfl (fun hc => ?_) (fun hc => ?_)) <;> (first | (cases hc; done) | ((try simp only [boolS] at hc); (try (exfalso; omega))))) | refine zqa ?_ | refine zqi ?_ | refine zqb ?_ | refine zqg ?_ | refine zqc ?_ | refine zqk ?_ | refine zql ?_ | refine zqn ?_ | refine zqv ?_ | refine zqw ?_ | refine zqx ?_ | refine zqy ?_ | refine zqz ?_ | refine zqza rfl ?_ | refine zqzb ?_ | refine zqp ?_ | refine zqo ?_ | refine zqu (by (simp (disch := omega) only [go_sem, Nat.reduceBEq, Nat.reduceBeqDiff, Nat.reduceEqDiff, ↓reduceIte, reduceCtorEq, Nat.reduceAdd, Nat.reduceLeDiff, Nat.reduceLT]); rfl) rfl ?_ | (refine hK _ ?_; clear hK K) | (refine zqf (fun hb => ?_) (fun hb => ?_) <;> (have hb2 := hb; try simp only [boolS] at hb2) <;> ((first | have hb3 : (_ : Bool) = _ := hb2 | have hb3 := eq_false hb2 | have hb3 := eq_true hb2); (simp (disch := omega) only [go_sem, Nat.reduceBEq, Nat.reduceBeqDiff, Nat.reduceEqDiff, ↓reduceIte, reduceCtorEq, Nat.reduceAdd, Nat.reduceMul, Nat.reduceLeDiff, Nat.reduceLT, Int.reduceLT, Int.reduceLE, Int.reduceEq, hb, hb3]); clear hb hb3; (try (exfalso; omega)))) | (exfalso; omega))
 all_goals refine fin_bool ?_
 all_goals unfold validT
 all_goals (simp (disch := omega) only [decide_eq_true, decide_eq_false, Bool.true_and, Bool.false_and, Bool.and_true, Bool.and_false, Bool.or_true, Bool.or_false, Bool.true_or, Bool.false_or, Bool.not_true, Bool.not_false, if_true, if_false, Bool.false_eq_true, Bool.and_self, *])
end Go.Proofs.YtkhjpcmpljpmjaaGreatDoor
