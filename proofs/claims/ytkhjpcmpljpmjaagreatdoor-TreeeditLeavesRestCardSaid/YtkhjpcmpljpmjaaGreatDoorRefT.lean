/-
 The walks of the reference's Nests, Name, alone, Right, Count, Depth, All, Ids, May. No condition but lengths.
-/
import Derived.Test.YtkhjpcmpljpmjaaGreatDoorCopy
set_option maxRecDepth 100000
set_option maxHeartbeats 8000000
set_option linter.unusedSimpArgs false
set_option linter.unusedVariables false
namespace Go.Proofs.YtkhjpcmpljpmjaaGreatDoor
open Abs Facts Tr
attribute [local irreducible] awp
namespace Tr
def szB (t : T) : Bool := recT (fun t l => decide (t.label.size ≤ 1000000) && (decide (t.head.length ≤ 1000000) && ((t.head.all fun w => decide (w.text.size ≤ 1000000)) && (decide (t.words.length ≤ 1000000) && ((t.words.all fun w => decide (w.text.size ≤ 1000000)) && (decide (t.kids.length ≤ 1000000) && l.all id)))))) t
theorem sz_iff (t : T) : szB t = true ↔ t.label.size ≤ 1000000 ∧ t.head.length ≤ 1000000 ∧ (∀ w ∈ t.head, w.text.size ≤ 1000000) ∧ t.words.length ≤ 1000000 ∧ (∀ w ∈ t.words, w.text.size ≤ 1000000) ∧ t.kids.length ≤ 1000000 ∧ ∀ k ∈ t.kids, szB k = true := by
 unfold szB
 rw [recT_eq]
 simp only [List.all_map, Bool.and_eq_true, decide_eq_true_iff, List.all_eq_true]
 rfl
theorem sz_sm : ∀ t : T, szB t = true → smB t = true := by
 refine ind1 fun t ih h => ?_
 obtain ⟨_, h1, _, h2, _, h3, h4⟩ := (sz_iff t).1 h
 exact (sm_iff t).2 ⟨h1, h2, h3, fun k hk => ih k hk (h4 k hk)⟩
theorem sz_fit (t : T) (h : szB t = true) : fitB t = true := sm_fit t (sz_sm t h)
def emptyB : ByteArray := ⟨#[]⟩
def aloneR (t : T) : Bool := decide (0 ≤ t.kind ∧ t.kind ≤ 7) && (decide (t.kids.length ≤ 64) && (rowB t.head && (rowB t.words && (if t.kind = 0 then decide (t.label = emptyB) && (decide (t.head.length = 0) && decide (t.words.length = 0)) else labelB t.label))))
def keyK (t : T) : Int × ByteArray := (t.kind, t.label)
def rightT (t : T) : Bool := recT (fun t l => aloneR t && ((t.kids.all fun k => nestsB t.kind k.kind) && (l.all id && decide ((t.kids.map keyK).Nodup)))) t
theorem rightT_eq (t : T) : rightT t = (aloneR t && ((t.kids.all fun k => nestsB t.kind k.kind) && (t.kids.all rightT && decide ((t.kids.map keyK).Nodup)))) := by
 unfold rightT
 rw [recT_eq, List.all_map]; rfl
theorem nodup_take {α β : Type} {f : α → β} {l : List α} {k : Nat} (hk : k < l.length) (h : ((l.take k).map f).Nodup) (h2 : ∀ j, (hj : j < k) → f (l[j]'(by omega)) ≠ f l[k]) : ((l.take (k + 1)).map f).Nodup := by
 rw [List.take_succ_eq_append_getElem hk, List.map_append, List.nodup_append]
 refine ⟨h, by simp, fun a ha b hb => ?_⟩
 simp only [List.map_cons, List.map_nil, List.mem_singleton] at hb
 subst hb
 obtain ⟨x, hx, rfl⟩ := List.mem_map.1 ha
 obtain ⟨j, hj, rfl⟩ := List.getElem_of_mem hx
 rw [List.length_take] at hj
 rw [List.getElem_take]
 exact h2 j (by omega)
theorem nodup_no {α β : Type} {f : α → β} {l : List α} {j k : Nat} (hj : j < k) (hk : k < l.length) (h : f (l[j]'(by omega)) = f l[k]) : ¬ (l.map f).Nodup := fun hn => by
 have h2 := (List.pairwise_iff_getElem.1 hn) j k (by simp; omega) (by simpa using hk) hj
 simp only [List.getElem_map] at h2
 exact h2 h
end Tr
theorem pc_Nests (p k : Int) : PC Tryz.prog 38 [.int .i64 p, .int .i64 k] (.bool (nestsB p k)) := by
 refine zqzd 1 rfl rfl (zqze [] Tryz.func38 rfl (by decide +kernel) mixed (by decide +kernel) (by simp [Tryz.ntmps38]) ?_)
 show awp _ _ (Code.seq _ _) _ _
 skip
 by_cases hk : 0 ≤ p ∧ p < 8
 ·rcases kind8 hk with rfl | rfl | rfl | rfl | rfl | rfl | rfl | rfl
  all_goals clear hk
  all_goals (repeat' (first | refine zqj ?_ | ((first | refine zqh fun K hK => ?_ | refine zqe (by decide +kernel) fun K hK => ?_ | refine zqr fun K hK => ?_ | refine zqq (by decide +kernel) fun K hK => ?_); (simp (disch := omega) only [go_sem, Nat.reduceBEq, Nat.reduceBeqDiff, Nat.reduceEqDiff, ↓reduceIte, reduceCtorEq, Nat.reduceAdd, Nat.reduceMul, Nat.reduceLeDiff, Nat.reduceLT, Int.reduceLT, Int.reduceLE, Int.reduceEq])) | ((first | refine zqd _ rfl (fun hc => ?_) (fun hc => ?_) | refine zqm _ rfl (fun hc => ?_) (fun hc => ?_)) <;> (first | (cases hc; done) | ((try simp only [boolS] at hc); (try (exfalso; omega))))) | refine zqa ?_ | refine zqi ?_ | refine zqb ?_ | refine zqg ?_ | refine zqc ?_ | refine zqk ?_ | refine zql ?_ | refine zqn ?_ | refine zqv ?_ | refine zqw ?_ | refine zqx ?_ | refine zqy ?_ | refine zqz ?_ | refine zqza rfl ?_ | refine zqzb ?_ | refine zqp ?_ | refine zqo ?_ | refine zqu (by (simp (disch := omega) only [go_sem, Nat.reduceBEq, Nat.reduceBeqDiff, Nat.reduceEqDiff, ↓reduceIte, reduceCtorEq, Nat.reduceAdd, Nat.reduceLeDiff, Nat.reduceLT]); rfl) rfl ?_ | (refine hK _ ?_; clear hK K) | (refine zqf (fun hb => ?_) (fun hb => ?_) <;> (have hb2 := hb; try simp only [boolS] at hb2) <;> ((first | have hb3 : (_ : Bool) = _ := hb2 | have hb3 := eq_false hb2 | have hb3 := eq_true hb2); (simp (disch := omega) only [go_sem, Nat.reduceBEq, Nat.reduceBeqDiff, Nat.reduceEqDiff, ↓reduceIte, reduceCtorEq, Nat.reduceAdd, Nat.reduceMul, Nat.reduceLeDiff, Nat.reduceLT, Int.reduceLT, Int.reduceLE, Int.reduceEq, hb, hb3]); clear hb hb3; (try (exfalso; omega)))) | (exfalso; omega)))
  all_goals refine fin_bool ?_
  all_goals (simp_all [nestsB, belowL]; done)
 ·rw [show nestsB p k = false from if_neg hk]
  repeat' (first | refine zqj ?_ | ((first | refine zqh fun K hK => ?_ | refine zqe (by decide +kernel) fun K hK => ?_ | refine zqr fun K hK => ?_ | refine zqq (by decide +kernel) fun K hK => ?_); (simp (disch := omega) only [go_sem, Nat.reduceBEq, Nat.reduceBeqDiff, Nat.reduceEqDiff, ↓reduceIte, reduceCtorEq, Nat.reduceAdd, Nat.reduceMul, Nat.reduceLeDiff, Nat.reduceLT, Int.reduceLT, Int.reduceLE, Int.reduceEq])) | ((first | refine zqd _ rfl (fun hc => ?_) (fun hc => ?_) | refine zqm _ rfl (fun hc => ?_) (fun hc => ?_)) <;> (first | (cases hc; done) | ((try simp only [boolS] at hc); (try (exfalso; omega))))) | refine zqa ?_ | refine zqi ?_ | refine zqb ?_ | refine zqg ?_ | refine zqc ?_ | refine zqk ?_ | refine zql ?_ | refine zqn ?_ | refine zqv ?_ | refine zqw ?_ | refine zqx ?_ | refine zqy ?_ | refine zqz ?_ | refine zqza rfl ?_ | refine zqzb ?_ | refine zqp ?_ | refine zqo ?_ | refine zqu (by (simp (disch := omega) only [go_sem, Nat.reduceBEq, Nat.reduceBeqDiff, Nat.reduceEqDiff, ↓reduceIte, reduceCtorEq, Nat.reduceAdd, Nat.reduceLeDiff, Nat.reduceLT]); rfl) rfl ?_ | (refine hK _ ?_; clear hK K) | (refine zqf (fun hb => ?_) (fun hb => ?_) <;> (have hb2 := hb; try simp only [boolS] at hb2) <;> ((first | have hb3 : (_ : Bool) = _ := hb2 | have hb3 := eq_false hb2 | have hb3 := eq_true hb2); (simp (disch := omega) only [go_sem, Nat.reduceBEq, Nat.reduceBeqDiff, Nat.reduceEqDiff, ↓reduceIte, reduceCtorEq, Nat.reduceAdd, Nat.reduceMul, Nat.reduceLeDiff, Nat.reduceLT, Int.reduceLT, Int.reduceLE, Int.reduceEq, hb, hb3]); clear hb hb3; (try (exfalso; omega)))) | (exfalso; omega))
  all_goals exact fin_bool rfl
theorem pc_aloneR (t : T) (hs : szB t = true) : PC Tryz.prog 136 [encU t] (.bool (aloneR t)) := by
 obtain ⟨h0, h1, g1, h2, g2, h3, _⟩ := (sz_iff t).1 hs
 have r1 := pc_rowR t.head h1 (fun w hw => by have := g1 w hw; unfold maxLen; omega)
 have r2 := pc_rowR t.words h2 (fun w hw => by have := g2 w hw; unfold maxLen; omega)
 have r3 := pc_Label t.label (by unfold maxLen; omega)
 refine zqzd 1 (by simp only [pureD.pureL, pure_encU, pureD, Bool.and_self]) rfl (zqze [] Tryz.func136 rfl (by decide +kernel) mixed (by decide +kernel) (by simp [Tryz.ntmps136]) ?_)
 show awp _ _ (Code.seq _ _) _ _
 skip
 repeat' (first | refine zqj ?_ | ((first | refine zqh fun K hK => ?_ | refine zqe (by decide +kernel) fun K hK => ?_ | refine zqr fun K hK => ?_ | refine zqq (by decide +kernel) fun K hK => ?_ | refine zqs (r1) ?_ | refine zqt (r1) ?_ | refine zqs (r2) ?_ | refine zqt (r2) ?_ | refine zqs (r3) ?_ | refine zqt (r3) ?_); (simp (disch := omega) only [go_sem, Nat.reduceBEq, Nat.reduceBeqDiff, Nat.reduceEqDiff, ↓reduceIte, reduceCtorEq, Nat.reduceAdd, Nat.reduceMul, Nat.reduceLeDiff, Nat.reduceLT, Int.reduceLT, Int.reduceLE, Int.reduceEq, encWs, encUs])) | ((first | refine zqd _ rfl (fun hc => ?_) (fun hc => ?_) | refine zqm _ rfl (fun hc => ?_) (fun hc => ?_)) <;> (first | (cases hc; done) | ((try simp only [boolS] at hc); (try (exfalso; omega))))) | refine zqa ?_ | refine zqi ?_ | refine zqb ?_ | refine zqg ?_ | refine zqc ?_ | refine zqk ?_ | refine zql ?_ | refine zqn ?_ | refine zqv ?_ | refine zqw ?_ | refine zqx ?_ | refine zqy ?_ | refine zqz ?_ | refine zqza rfl ?_ | refine zqzb ?_ | refine zqp ?_ | refine zqo ?_ | refine zqu (by (simp (disch := omega) only [go_sem, Nat.reduceBEq, Nat.reduceBeqDiff, Nat.reduceEqDiff, ↓reduceIte, reduceCtorEq, Nat.reduceAdd, Nat.reduceLeDiff, Nat.reduceLT, encWs, encUs]); rfl) rfl ?_ | (refine hK _ ?_; clear hK K) | (refine zqf (fun hb => ?_) (fun hb => ?_) <;> (have hb2 := hb; try simp only [boolS] at hb2) <;> ((first | have hb3 : (_ : Bool) = _ := hb2 | have hb3 := eq_false hb2 | have hb3 := eq_true hb2); (simp (disch := omega) only [go_sem, Nat.reduceBEq, Nat.reduceBeqDiff, Nat.reduceEqDiff, ↓reduceIte, reduceCtorEq, Nat.reduceAdd, Nat.reduceMul, Nat.reduceLeDiff, Nat.reduceLT, Int.reduceLT, Int.reduceLE, Int.reduceEq, hb, hb3, encWs, encUs]); clear hb hb3; (try (exfalso; omega)))) | (exfalso; omega))
 all_goals refine fin_bool ?_
 all_goals unfold aloneR
 all_goals first
  | (rw [decide_eq_false (by omega)]; rfl)
  | (rw [decide_eq_true (by omega), decide_eq_false (by omega)]; rfl)
  | (rw [decide_eq_true (by omega), decide_eq_true (by omega)]; simp_all [emptyB]; done)
  | (rw [decide_eq_true (show 0 ≤ t.kind ∧ t.kind ≤ 7 by omega), decide_eq_true (show t.kids.length ≤ 64 by omega)]; simp_all [emptyB]; done)
  | skip
theorem pc_Right : ∀ t : T, szB t = true → PC Tryz.prog 119 [encU t] (.bool (rightT t)) := by
 refine ind1 fun t ih hs => ?_
 have ha := pc_aloneR t hs
 obtain ⟨h0, h1, g1, h2, g2, h3, h4⟩ := (sz_iff t).1 hs
 rw [rightT_eq]
 refine zqzd 1 (by simp only [pureD.pureL, pure_encU, pureD, Bool.and_self]) rfl (zqze [] Tryz.func119 rfl (by decide +kernel) mixed (by decide +kernel) (by simp [Tryz.ntmps119]) ?_)
 show awp _ _ (Code.seq _ _) _ _
 skip
 repeat' (first | refine zqj ?_ | ((first | refine zqh fun K hK => ?_ | refine zqe (by decide +kernel) fun K hK => ?_ | refine zqr fun K hK => ?_ | refine zqq (by decide +kernel) fun K hK => ?_ | refine zqs (ha) ?_ | refine zqt (ha) ?_); (simp (disch := omega) only [go_sem, Nat.reduceBEq, Nat.reduceBeqDiff, Nat.reduceEqDiff, ↓reduceIte, reduceCtorEq, Nat.reduceAdd, Nat.reduceMul, Nat.reduceLeDiff, Nat.reduceLT, Int.reduceLT, Int.reduceLE, Int.reduceEq])) | ((first | refine zqd _ rfl (fun hc => ?_) (fun hc => ?_) | refine zqm _ rfl (fun hc => ?_) (fun hc => ?_)) <;> (first | (cases hc; done) | ((try simp only [boolS] at hc); (try (exfalso; omega))))) | refine zqa ?_ | refine zqi ?_ | refine zqb ?_ | refine zqg ?_ | refine zqc ?_ | refine zqk ?_ | refine zql ?_ | refine zqn ?_ | refine zqv ?_ | refine zqw ?_ | refine zqx ?_ | refine zqy ?_ | refine zqz ?_ | refine zqza rfl ?_ | refine zqzb ?_ | refine zqp ?_ | refine zqo ?_ | refine zqu (by (simp (disch := omega) only [go_sem, Nat.reduceBEq, Nat.reduceBeqDiff, Nat.reduceEqDiff, ↓reduceIte, reduceCtorEq, Nat.reduceAdd, Nat.reduceLeDiff, Nat.reduceLT]); rfl) rfl ?_ | (refine hK _ ?_; clear hK K) | (refine zqf (fun hb => ?_) (fun hb => ?_) <;> (have hb2 := hb; try simp only [boolS] at hb2) <;> ((first | have hb3 : (_ : Bool) = _ := hb2 | have hb3 := eq_false hb2 | have hb3 := eq_true hb2); (simp (disch := omega) only [go_sem, Nat.reduceBEq, Nat.reduceBeqDiff, Nat.reduceEqDiff, ↓reduceIte, reduceCtorEq, Nat.reduceAdd, Nat.reduceMul, Nat.reduceLeDiff, Nat.reduceLT, Int.reduceLT, Int.reduceLE, Int.reduceEq, hb, hb3]); clear hb hb3; (try (exfalso; omega)))) | (exfalso; omega))
 ·exact fin_bool (by simp_all)
 rw [‹aloneR t = true›, Bool.true_and]
 (refine zqzc (fun mz st => ∃ (i : _), mz = t.kids.length - i ∧ st.t 1 = .ptr 0 0 ∧ st.t 3 = .int .i64 i ∧ st.H 0 = some (.box 27 (cellsU t)) ∧ (i ≤ t.kids.length) ∧ (1 ≤ st.nx) ∧ ((t.kids.take i).all (fun k => nestsB t.kind k.kind) = true) ∧ ((t.kids.take i).all rightT = true) ∧ (((t.kids.take i).map keyK).Nodup)) ?_ ?_); rotate_left; (rintro mz st ⟨i, rfl, q1, q3, qH0, qp0, qp1, qp2, qp3, qp4⟩); rotate_left
 ·(refine ⟨_, 0, rfl, ?_⟩); (simp (disch := omega) only [go_sem, Nat.reduceBEq, Nat.reduceBeqDiff, Nat.reduceEqDiff, ↓reduceIte, reduceCtorEq, Nat.reduceAdd, Nat.reduceMul, Nat.reduceLeDiff, Nat.reduceLT, Int.reduceLT, Int.reduceLE, Int.reduceEq, true_and, and_true, and_self, Int.natCast_add, Int.natCast_one, Int.natCast_zero, List.flatMap_nil, List.map_nil, List.append_nil, List.nil_append])
  all_goals simp
 have hin := fun (h : i < t.kids.length) => ih t.kids[i] (List.getElem_mem h) (h4 _ (List.getElem_mem h))
 have hn := fun (h : i < t.kids.length) => pc_Nests t.kind t.kids[i].kind
 repeat' (first | refine zqj ?_ | ((first | refine zqh fun K hK => ?_ | refine zqe (by decide +kernel) fun K hK => ?_ | refine zqr fun K hK => ?_ | refine zqq (by decide +kernel) fun K hK => ?_ | refine zqs (hn (by omega)) ?_ | refine zqt (hn (by omega)) ?_ | refine zqs (hin (by omega)) ?_ | refine zqt (hin (by omega)) ?_); (simp (disch := omega) only [go_sem, Nat.reduceBEq, Nat.reduceBeqDiff, Nat.reduceEqDiff, ↓reduceIte, reduceCtorEq, Nat.reduceAdd, Nat.reduceMul, Nat.reduceLeDiff, Nat.reduceLT, Int.reduceLT, Int.reduceLE, Int.reduceEq, q1, q3, qH0, encUs])) | ((first | refine zqd _ rfl (fun hc => ?_) (fun hc => ?_) | refine zqm _ rfl (fun hc => ?_) (fun hc => ?_)) <;> (first | (cases hc; done) | ((try simp only [boolS] at hc); (try (exfalso; omega))))) | refine zqa ?_ | refine zqi ?_ | refine zqb ?_ | refine zqg ?_ | refine zqc ?_ | refine zqk ?_ | refine zql ?_ | refine zqn ?_ | refine zqv ?_ | refine zqw ?_ | refine zqx ?_ | refine zqy ?_ | refine zqz ?_ | refine zqza rfl ?_ | refine zqzb ?_ | refine zqp ?_ | refine zqo ?_ | refine zqu (by (simp (disch := omega) only [go_sem, Nat.reduceBEq, Nat.reduceBeqDiff, Nat.reduceEqDiff, ↓reduceIte, reduceCtorEq, Nat.reduceAdd, Nat.reduceLeDiff, Nat.reduceLT, q1, q3, qH0, encUs]); rfl) rfl ?_ | (refine hK _ ?_; clear hK K) | (refine zqf (fun hb => ?_) (fun hb => ?_) <;> (have hb2 := hb; try simp only [boolS] at hb2) <;> ((first | have hb3 : (_ : Bool) = _ := hb2 | have hb3 := eq_false hb2 | have hb3 := eq_true hb2); (simp (disch := omega) only [go_sem, Nat.reduceBEq, Nat.reduceBeqDiff, Nat.reduceEqDiff, ↓reduceIte, reduceCtorEq, Nat.reduceAdd, Nat.reduceMul, Nat.reduceLeDiff, Nat.reduceLT, Int.reduceLT, Int.reduceLE, Int.reduceEq, hb, hb3, q1, q3, qH0, encUs]); clear hb hb3; (try (exfalso; omega)))) | (exfalso; omega))
 ·exact fin_bool (by rw [all_no (f := rightT) (k := i) (by omega) (by assumption), Bool.false_and, Bool.and_false])
 ·(refine zqzc (fun mz st => ∃ (k : _), mz = i - k ∧ st.t 1 = .ptr 0 0 ∧ st.t 3 = .int .i64 i ∧ st.t 4 = .int .i64 k ∧ st.H 0 = some (.box 27 (cellsU t)) ∧ (k ≤ i) ∧ (1 ≤ st.nx) ∧ (∀ j, (hj : j < k) → (h : j < t.kids.length) → (h2 : i < t.kids.length) → keyK t.kids[j] ≠ keyK t.kids[i])) ?_ ?_); rotate_left; (rintro mz st ⟨k, rfl, r1, r3, r4, rH0, rp0, rp1, rp2⟩); rotate_left
  ·(refine ⟨_, 0, rfl, ?_⟩); (simp (disch := omega) only [go_sem, Nat.reduceBEq, Nat.reduceBeqDiff, Nat.reduceEqDiff, ↓reduceIte, reduceCtorEq, Nat.reduceAdd, Nat.reduceMul, Nat.reduceLeDiff, Nat.reduceLT, Int.reduceLT, Int.reduceLE, Int.reduceEq, q1, q3, qH0, true_and, and_true, and_self, Int.natCast_add, Int.natCast_one, Int.natCast_zero, List.flatMap_nil, List.map_nil, List.append_nil, List.nil_append])
   exact ⟨by omega, fun j hj => by omega⟩
  repeat' (first | refine zqj ?_ | ((first | refine zqh fun K hK => ?_ | refine zqe (by decide +kernel) fun K hK => ?_ | refine zqr fun K hK => ?_ | refine zqq (by decide +kernel) fun K hK => ?_); (simp (disch := omega) only [go_sem, Nat.reduceBEq, Nat.reduceBeqDiff, Nat.reduceEqDiff, ↓reduceIte, reduceCtorEq, Nat.reduceAdd, Nat.reduceMul, Nat.reduceLeDiff, Nat.reduceLT, Int.reduceLT, Int.reduceLE, Int.reduceEq, r1, r3, r4, rH0, encUs])) | ((first | refine zqd _ rfl (fun hc => ?_) (fun hc => ?_) | refine zqm _ rfl (fun hc => ?_) (fun hc => ?_)) <;> (first | (cases hc; done) | ((try simp only [boolS] at hc); (try (exfalso; omega))))) | refine zqa ?_ | refine zqi ?_ | refine zqb ?_ | refine zqg ?_ | refine zqc ?_ | refine zqk ?_ | refine zql ?_ | refine zqn ?_ | refine zqv ?_ | refine zqw ?_ | refine zqx ?_ | refine zqy ?_ | refine zqz ?_ | refine zqza rfl ?_ | refine zqzb ?_ | refine zqp ?_ | refine zqo ?_ | refine zqu (by (simp (disch := omega) only [go_sem, Nat.reduceBEq, Nat.reduceBeqDiff, Nat.reduceEqDiff, ↓reduceIte, reduceCtorEq, Nat.reduceAdd, Nat.reduceLeDiff, Nat.reduceLT, r1, r3, r4, rH0, encUs]); rfl) rfl ?_ | (refine hK _ ?_; clear hK K) | (refine zqf (fun hb => ?_) (fun hb => ?_) <;> (have hb2 := hb; try simp only [boolS] at hb2) <;> ((first | have hb3 : (_ : Bool) = _ := hb2 | have hb3 := eq_false hb2 | have hb3 := eq_true hb2); (simp (disch := omega) only [go_sem, Nat.reduceBEq, Nat.reduceBeqDiff, Nat.reduceEqDiff, ↓reduceIte, reduceCtorEq, Nat.reduceAdd, Nat.reduceMul, Nat.reduceLeDiff, Nat.reduceLT, Int.reduceLT, Int.reduceLE, Int.reduceEq, hb, hb3, r1, r3, r4, rH0, encUs]); clear hb hb3; (try (exfalso; omega)))) | (exfalso; omega))
  ·refine fin_bool ?_
   have hno := nodup_no (f := keyK) (l := t.kids) (j := k) (k := i) (by omega) (by omega) (by unfold keyK; rw [‹t.kids[k].kind = t.kids[i].kind›, ‹t.kids[k].label = t.kids[i].label›])
   rw [decide_eq_false hno, Bool.and_false, Bool.and_false]
  ·(refine Exists.intro _ (And.intro ?_ ⟨k + 1, rfl, ?_⟩)); rotate_left; (simp (disch := omega) only [go_sem, Nat.reduceBEq, Nat.reduceBeqDiff, Nat.reduceEqDiff, ↓reduceIte, reduceCtorEq, Nat.reduceAdd, Nat.reduceMul, Nat.reduceLeDiff, Nat.reduceLT, Int.reduceLT, Int.reduceLE, Int.reduceEq, r1, r3, r4, rH0, true_and, and_true, and_self, Int.natCast_add, Int.natCast_one, Int.natCast_zero, List.flatMap_append, List.flatMap_cons, List.flatMap_nil, List.map_append, List.map_cons, List.map_nil, List.append_nil, List.cons_append, List.nil_append]); rotate_left
   ·omega
   ·refine ⟨by omega, by omega, fun j hj h h2 => ?_⟩
    by_cases e : j = k
    ·subst e; exact fun h => absurd (congrArg Prod.snd h) (by assumption)
    ·exact rp2 j (by omega) h h2
  ·(refine Exists.intro _ (And.intro ?_ ⟨k + 1, rfl, ?_⟩)); rotate_left; (simp (disch := omega) only [go_sem, Nat.reduceBEq, Nat.reduceBeqDiff, Nat.reduceEqDiff, ↓reduceIte, reduceCtorEq, Nat.reduceAdd, Nat.reduceMul, Nat.reduceLeDiff, Nat.reduceLT, Int.reduceLT, Int.reduceLE, Int.reduceEq, r1, r3, r4, rH0, true_and, and_true, and_self, Int.natCast_add, Int.natCast_one, Int.natCast_zero, List.flatMap_append, List.flatMap_cons, List.flatMap_nil, List.map_append, List.map_cons, List.map_nil, List.append_nil, List.cons_append, List.nil_append]); rotate_left
   ·omega
   ·refine ⟨by omega, by omega, fun j hj h h2 => ?_⟩
    by_cases e : j = k
    ·subst e; exact fun h => absurd (congrArg Prod.fst h) (by assumption)
    ·exact rp2 j (by omega) h h2
  ·skip
   have hi : i < t.kids.length := by omega
   (refine Exists.intro _ (And.intro ?_ ⟨i + 1, rfl, ?_⟩)); rotate_left; (simp (disch := omega) only [go_sem, Nat.reduceBEq, Nat.reduceBeqDiff, Nat.reduceEqDiff, ↓reduceIte, reduceCtorEq, Nat.reduceAdd, Nat.reduceMul, Nat.reduceLeDiff, Nat.reduceLT, Int.reduceLT, Int.reduceLE, Int.reduceEq, q1, q3, qH0, true_and, and_true, and_self, Int.natCast_add, Int.natCast_one, Int.natCast_zero, List.flatMap_append, List.flatMap_cons, List.flatMap_nil, List.map_append, List.map_cons, List.map_nil, List.append_nil, List.cons_append, List.nil_append, r1, r3, rH0]); rotate_left
   ·omega
   ·exact ⟨by omega, by omega, all_step (by omega) qp2 (by assumption), all_step (by omega) qp3 (by assumption), nodup_take hi qp4 (fun j hj => rp2 j (by omega) (by omega) hi)⟩
 ·exact fin_bool (by rw [all_no (f := fun k : T => nestsB t.kind k.kind) (k := i) (by omega) (by assumption), Bool.false_and])
 ·refine fin_bool ?_
  rw [all_done (by omega) qp2, all_done (by omega) qp3]
  rw [List.take_of_length_le (by omega)] at qp4
  rw [decide_eq_true qp4]; rfl
namespace Tr
theorem cntT_eq (t : T) : cntT t = 1 + (t.kids.flatMap nodesT).length := by unfold cntT; rw [nodesT_eq, List.length_cons, Nat.add_comm]
theorem flat_len_take (l : List T) (i : Nat) : ((l.take i).flatMap nodesT).length ≤ (l.flatMap nodesT).length := by
 have : l.flatMap nodesT = (l.take i).flatMap nodesT ++ (l.drop i).flatMap nodesT := by rw [← List.flatMap_append, List.take_append_drop]
 rw [this, List.length_append]; omega
theorem flat_len_succ (l : List T) (i : Nat) (h : i < l.length) : ((l.take (i + 1)).flatMap nodesT).length = ((l.take i).flatMap nodesT).length + cntT l[i] := by
 rw [List.take_succ_eq_append_getElem h, List.flatMap_append, List.length_append]; simp [cntT]
theorem cnt_kid {t k : T} (h : k ∈ t.kids) : 1 + cntT k ≤ cntT t := by
 rw [cntT_eq t]
 obtain ⟨i, hi, rfl⟩ := List.getElem_of_mem h
 have h1 := flat_len_succ t.kids i hi
 have h2 := flat_len_take t.kids (i + 1)
 omega
theorem cnt_pos (t : T) : 1 ≤ cntT t := by rw [cntT_eq]; omega
theorem idsT_eq (t : T) : idsT t = t.id :: t.kids.flatMap idsT := by
 unfold idsT
 rw [nodesT_eq, List.map_cons, List.map_flatMap]
theorem idsT_len (t : T) : (idsT t).length = cntT t := by unfold idsT cntT; rw [List.length_map]
def idsB (t : T) : Bool := (idsT t).all (fun i => decide (i = Idv.zero)) || (decide ((t.id = Idv.zero) ↔ (t.kind = 0)) && decide ((idsT t).Nodup))
def validT (t : T) : Bool := rightT t && (decide (depT t ≤ 8) && (decide (cntT t ≤ 1024) && idsB t))
end Tr
theorem pc_CountR : ∀ t : T, szB t = true → cntT t ≤ 1000000000 → PC Tryz.prog 31 [encU t] (.int .i64 (cntT t)) := by
 refine ind1 fun t ih hs hc => ?_
 obtain ⟨h0, h1, g1, h2, g2, h3, h4⟩ := (sz_iff t).1 hs
 have hce := cntT_eq t
 refine zqzd 1 (by simp only [pureD.pureL, pure_encU, pureD, Bool.and_self]) rfl (zqze [] Tryz.func31 rfl (by decide +kernel) mixed (by decide +kernel) (by simp [Tryz.ntmps31]) ?_)
 show awp _ _ (Code.seq _ _) _ _
 skip
 repeat' (first | refine zqj ?_ | ((first | refine zqh fun K hK => ?_ | refine zqe (by decide +kernel) fun K hK => ?_ | refine zqr fun K hK => ?_ | refine zqq (by decide +kernel) fun K hK => ?_); (simp (disch := omega) only [go_sem, Nat.reduceBEq, Nat.reduceBeqDiff, Nat.reduceEqDiff, ↓reduceIte, reduceCtorEq, Nat.reduceAdd, Nat.reduceMul, Nat.reduceLeDiff, Nat.reduceLT, Int.reduceLT, Int.reduceLE, Int.reduceEq])) | ((first | refine zqd _ rfl (fun hc => ?_) (fun hc => ?_) | refine zqm _ rfl (fun hc => ?_) (fun hc => ?_)) <;> (first | (cases hc; done) | ((try simp only [boolS] at hc); (try (exfalso; omega))))) | refine zqa ?_ | refine zqi ?_ | refine zqb ?_ | refine zqg ?_ | refine zqc ?_ | refine zqk ?_ | refine zql ?_ | refine zqn ?_ | refine zqv ?_ | refine zqw ?_ | refine zqx ?_ | refine zqy ?_ | refine zqz ?_ | refine zqza rfl ?_ | refine zqzb ?_ | refine zqp ?_ | refine zqo ?_ | refine zqu (by (simp (disch := omega) only [go_sem, Nat.reduceBEq, Nat.reduceBeqDiff, Nat.reduceEqDiff, ↓reduceIte, reduceCtorEq, Nat.reduceAdd, Nat.reduceLeDiff, Nat.reduceLT]); rfl) rfl ?_ | (refine hK _ ?_; clear hK K) | (refine zqf (fun hb => ?_) (fun hb => ?_) <;> (have hb2 := hb; try simp only [boolS] at hb2) <;> ((first | have hb3 : (_ : Bool) = _ := hb2 | have hb3 := eq_false hb2 | have hb3 := eq_true hb2); (simp (disch := omega) only [go_sem, Nat.reduceBEq, Nat.reduceBeqDiff, Nat.reduceEqDiff, ↓reduceIte, reduceCtorEq, Nat.reduceAdd, Nat.reduceMul, Nat.reduceLeDiff, Nat.reduceLT, Int.reduceLT, Int.reduceLE, Int.reduceEq, hb, hb3]); clear hb hb3; (try (exfalso; omega)))) | (exfalso; omega))
 (refine zqzc (fun mz st => ∃ (i : _), mz = t.kids.length - i ∧ st.t 1 = .ptr 0 0 ∧ st.t 3 = .int .i64 (1 + ((t.kids.take i).flatMap nodesT).length : Nat) ∧ st.t 4 = .int .i64 i ∧ st.H 0 = some (.box 27 (cellsU t)) ∧ (i ≤ t.kids.length) ∧ (1 ≤ st.nx)) ?_ ?_); rotate_left; (rintro mz st ⟨i, rfl, q1, q3, q4, qH0, qp0, qp1⟩); rotate_left
 ·(refine ⟨_, 0, rfl, ?_⟩); (simp (disch := omega) only [go_sem, Nat.reduceBEq, Nat.reduceBeqDiff, Nat.reduceEqDiff, ↓reduceIte, reduceCtorEq, Nat.reduceAdd, Nat.reduceMul, Nat.reduceLeDiff, Nat.reduceLT, Int.reduceLT, Int.reduceLE, Int.reduceEq, true_and, and_true, and_self, Int.natCast_add, Int.natCast_one, Int.natCast_zero, List.flatMap_nil, List.map_nil, List.append_nil, List.nil_append])
  try simp
 have hin := fun (h : i < t.kids.length) => ih t.kids[i] (List.getElem_mem h) (h4 _ (List.getElem_mem h)) (by have := cnt_kid (List.getElem_mem h); omega)
 have hb := flat_len_take t.kids (i + 1)
 have hsu := fun (h : i < t.kids.length) => flat_len_succ t.kids i h
 repeat' (first | refine zqj ?_ | ((first | refine zqh fun K hK => ?_ | refine zqe (by decide +kernel) fun K hK => ?_ | refine zqr fun K hK => ?_ | refine zqq (by decide +kernel) fun K hK => ?_ | refine zqs (hin (by omega)) ?_ | refine zqt (hin (by omega)) ?_); (simp (disch := omega) only [go_sem, Nat.reduceBEq, Nat.reduceBeqDiff, Nat.reduceEqDiff, ↓reduceIte, reduceCtorEq, Nat.reduceAdd, Nat.reduceMul, Nat.reduceLeDiff, Nat.reduceLT, Int.reduceLT, Int.reduceLE, Int.reduceEq, q1, q3, q4, qH0, encUs])) | ((first | refine zqd _ rfl (fun hc => ?_) (fun hc => ?_) | refine zqm _ rfl (fun hc => ?_) (fun hc => ?_)) <;> (first | (cases hc; done) | ((try simp only [boolS] at hc); (try (exfalso; omega))))) | refine zqa ?_ | refine zqi ?_ | refine zqb ?_ | refine zqg ?_ | refine zqc ?_ | refine zqk ?_ | refine zql ?_ | refine zqn ?_ | refine zqv ?_ | refine zqw ?_ | refine zqx ?_ | refine zqy ?_ | refine zqz ?_ | refine zqza rfl ?_ | refine zqzb ?_ | refine zqp ?_ | refine zqo ?_ | refine zqu (by (simp (disch := omega) only [go_sem, Nat.reduceBEq, Nat.reduceBeqDiff, Nat.reduceEqDiff, ↓reduceIte, reduceCtorEq, Nat.reduceAdd, Nat.reduceLeDiff, Nat.reduceLT, q1, q3, q4, qH0, encUs]); rfl) rfl ?_ | (refine hK _ ?_; clear hK K) | (refine zqf (fun hb => ?_) (fun hb => ?_) <;> (have hb2 := hb; try simp only [boolS] at hb2) <;> ((first | have hb3 : (_ : Bool) = _ := hb2 | have hb3 := eq_false hb2 | have hb3 := eq_true hb2); (simp (disch := omega) only [go_sem, Nat.reduceBEq, Nat.reduceBeqDiff, Nat.reduceEqDiff, ↓reduceIte, reduceCtorEq, Nat.reduceAdd, Nat.reduceMul, Nat.reduceLeDiff, Nat.reduceLT, Int.reduceLT, Int.reduceLE, Int.reduceEq, hb, hb3, q1, q3, q4, qH0, encUs]); clear hb hb3; (try (exfalso; omega)))) | (exfalso; omega))
 ·have hsu := hsu (by omega)
  (refine Exists.intro _ (And.intro ?_ ⟨i + 1, rfl, ?_⟩)); rotate_left; (simp (disch := omega) only [go_sem, Nat.reduceBEq, Nat.reduceBeqDiff, Nat.reduceEqDiff, ↓reduceIte, reduceCtorEq, Nat.reduceAdd, Nat.reduceMul, Nat.reduceLeDiff, Nat.reduceLT, Int.reduceLT, Int.reduceLE, Int.reduceEq, q1, q3, q4, qH0, true_and, and_true, and_self, Int.natCast_add, Int.natCast_one, Int.natCast_zero, List.flatMap_append, List.flatMap_cons, List.flatMap_nil, List.map_append, List.map_cons, List.map_nil, List.append_nil, List.cons_append, List.nil_append, hsu]); rotate_left
  ·omega
  ·exact ⟨by omega, by omega, by omega⟩
 ·have hi : i = t.kids.length := by omega
  subst hi
  refine fin_int ?_
  rw [List.take_length, hce]
theorem pc_DepthR : ∀ t : T, szB t = true → depT t ≤ 1000000000 → PC Tryz.prog 41 [encU t] (.int .i64 (depT t)) := by
 refine ind1 fun t ih hs hd => ?_
 obtain ⟨h0, h1, g1, h2, g2, h3, h4⟩ := (sz_iff t).1 hs
 refine zqzd 1 (by simp only [pureD.pureL, pure_encU, pureD, Bool.and_self]) rfl (zqze [] Tryz.func41 rfl (by decide +kernel) mixed (by decide +kernel) (by simp [Tryz.ntmps41]) ?_)
 show awp _ _ (Code.seq _ _) _ _
 skip
 repeat' (first | refine zqj ?_ | ((first | refine zqh fun K hK => ?_ | refine zqe (by decide +kernel) fun K hK => ?_ | refine zqr fun K hK => ?_ | refine zqq (by decide +kernel) fun K hK => ?_); (simp (disch := omega) only [go_sem, Nat.reduceBEq, Nat.reduceBeqDiff, Nat.reduceEqDiff, ↓reduceIte, reduceCtorEq, Nat.reduceAdd, Nat.reduceMul, Nat.reduceLeDiff, Nat.reduceLT, Int.reduceLT, Int.reduceLE, Int.reduceEq])) | ((first | refine zqd _ rfl (fun hc => ?_) (fun hc => ?_) | refine zqm _ rfl (fun hc => ?_) (fun hc => ?_)) <;> (first | (cases hc; done) | ((try simp only [boolS] at hc); (try (exfalso; omega))))) | refine zqa ?_ | refine zqi ?_ | refine zqb ?_ | refine zqg ?_ | refine zqc ?_ | refine zqk ?_ | refine zql ?_ | refine zqn ?_ | refine zqv ?_ | refine zqw ?_ | refine zqx ?_ | refine zqy ?_ | refine zqz ?_ | refine zqza rfl ?_ | refine zqzb ?_ | refine zqp ?_ | refine zqo ?_ | refine zqu (by (simp (disch := omega) only [go_sem, Nat.reduceBEq, Nat.reduceBeqDiff, Nat.reduceEqDiff, ↓reduceIte, reduceCtorEq, Nat.reduceAdd, Nat.reduceLeDiff, Nat.reduceLT]); rfl) rfl ?_ | (refine hK _ ?_; clear hK K) | (refine zqf (fun hb => ?_) (fun hb => ?_) <;> (have hb2 := hb; try simp only [boolS] at hb2) <;> ((first | have hb3 : (_ : Bool) = _ := hb2 | have hb3 := eq_false hb2 | have hb3 := eq_true hb2); (simp (disch := omega) only [go_sem, Nat.reduceBEq, Nat.reduceBeqDiff, Nat.reduceEqDiff, ↓reduceIte, reduceCtorEq, Nat.reduceAdd, Nat.reduceMul, Nat.reduceLeDiff, Nat.reduceLT, Int.reduceLT, Int.reduceLE, Int.reduceEq, hb, hb3]); clear hb hb3; (try (exfalso; omega)))) | (exfalso; omega))
 (refine zqzc (fun mz st => ∃ (i : _), mz = t.kids.length - i ∧ st.t 1 = .ptr 0 0 ∧ st.t 3 = .int .i64 (depF ((t.kids.take i).map depT) : Nat) ∧ st.t 4 = .int .i64 i ∧ st.H 0 = some (.box 27 (cellsU t)) ∧ (i ≤ t.kids.length) ∧ (1 ≤ st.nx)) ?_ ?_); rotate_left; (rintro mz st ⟨i, rfl, q1, q3, q4, qH0, qp0, qp1⟩); rotate_left
 ·(refine ⟨_, 0, rfl, ?_⟩); (simp (disch := omega) only [go_sem, Nat.reduceBEq, Nat.reduceBeqDiff, Nat.reduceEqDiff, ↓reduceIte, reduceCtorEq, Nat.reduceAdd, Nat.reduceMul, Nat.reduceLeDiff, Nat.reduceLT, Int.reduceLT, Int.reduceLE, Int.reduceEq, true_and, and_true, and_self, Int.natCast_add, Int.natCast_one, Int.natCast_zero, List.flatMap_nil, List.map_nil, List.append_nil, List.nil_append])
  rfl
 have hin := fun (h : i < t.kids.length) => ih t.kids[i] (List.getElem_mem h) (h4 _ (List.getElem_mem h)) (by have := depT_kid (List.getElem_mem h); omega)
 have hk := fun (h : i < t.kids.length) => depT_kid (t := t) (List.getElem_mem h)
 have hsn : ∀ h : i < t.kids.length, depF ((t.kids.take (i + 1)).map depT) = max (depF ((t.kids.take i).map depT)) (1 + depT t.kids[i]) := fun h => by
  rw [List.take_succ_eq_append_getElem h, List.map_append, List.map_cons, List.map_nil, depF_snoc]
 repeat' (first | refine zqj ?_ | ((first | refine zqh fun K hK => ?_ | refine zqe (by decide +kernel) fun K hK => ?_ | refine zqr fun K hK => ?_ | refine zqq (by decide +kernel) fun K hK => ?_ | refine zqs (hin (by omega)) ?_ | refine zqt (hin (by omega)) ?_); (simp (disch := omega) only [go_sem, Nat.reduceBEq, Nat.reduceBeqDiff, Nat.reduceEqDiff, ↓reduceIte, reduceCtorEq, Nat.reduceAdd, Nat.reduceMul, Nat.reduceLeDiff, Nat.reduceLT, Int.reduceLT, Int.reduceLE, Int.reduceEq, q1, q3, q4, qH0, encUs])) | ((first | refine zqd _ rfl (fun hc => ?_) (fun hc => ?_) | refine zqm _ rfl (fun hc => ?_) (fun hc => ?_)) <;> (first | (cases hc; done) | ((try simp only [boolS] at hc); (try (exfalso; omega))))) | refine zqa ?_ | refine zqi ?_ | refine zqb ?_ | refine zqg ?_ | refine zqc ?_ | refine zqk ?_ | refine zql ?_ | refine zqn ?_ | refine zqv ?_ | refine zqw ?_ | refine zqx ?_ | refine zqy ?_ | refine zqz ?_ | refine zqza rfl ?_ | refine zqzb ?_ | refine zqp ?_ | refine zqo ?_ | refine zqu (by (simp (disch := omega) only [go_sem, Nat.reduceBEq, Nat.reduceBeqDiff, Nat.reduceEqDiff, ↓reduceIte, reduceCtorEq, Nat.reduceAdd, Nat.reduceLeDiff, Nat.reduceLT, q1, q3, q4, qH0, encUs]); rfl) rfl ?_ | (refine hK _ ?_; clear hK K) | (refine zqf (fun hb => ?_) (fun hb => ?_) <;> (have hb2 := hb; try simp only [boolS] at hb2) <;> ((first | have hb3 : (_ : Bool) = _ := hb2 | have hb3 := eq_false hb2 | have hb3 := eq_true hb2); (simp (disch := omega) only [go_sem, Nat.reduceBEq, Nat.reduceBeqDiff, Nat.reduceEqDiff, ↓reduceIte, reduceCtorEq, Nat.reduceAdd, Nat.reduceMul, Nat.reduceLeDiff, Nat.reduceLT, Int.reduceLT, Int.reduceLE, Int.reduceEq, hb, hb3, q1, q3, q4, qH0, encUs]); clear hb hb3; (try (exfalso; omega)))) | (exfalso; omega))
 ·have hs := hsn (by omega)
  (refine Exists.intro _ (And.intro ?_ ⟨i + 1, rfl, ?_⟩)); rotate_left; (simp (disch := omega) only [go_sem, Nat.reduceBEq, Nat.reduceBeqDiff, Nat.reduceEqDiff, ↓reduceIte, reduceCtorEq, Nat.reduceAdd, Nat.reduceMul, Nat.reduceLeDiff, Nat.reduceLT, Int.reduceLT, Int.reduceLE, Int.reduceEq, q1, q3, q4, qH0, true_and, and_true, and_self, Int.natCast_add, Int.natCast_one, Int.natCast_zero, List.flatMap_append, List.flatMap_cons, List.flatMap_nil, List.map_append, List.map_cons, List.map_nil, List.append_nil, List.cons_append, List.nil_append, hs]); rotate_left
  ·omega
  ·have := hk (by omega); refine ⟨?_, by omega⟩
   rw [wrapI (by omega)]; omega
 ·refine fin_int ?_
  have hi : i = t.kids.length := by omega
  subst hi
  rw [List.take_length, ← depT_eq]
theorem cellsAll_encId : ∀ l : List Idv, cellsAll 3 (l.map encId) = some (l.flatMap cellsId)
 | [] => rfl
 | t :: w => by
  rw [List.map_cons, List.flatMap_cons]
  unfold cellsAll
  rw [cellsAll_encId w]
  rfl
theorem pc_All : ∀ t : T, szB t = true → cntT t ≤ 1000000000 → PC Tryz.prog 27 [encU t] (encIds (idsT t)) := by
 refine ind1 fun t ih hs hc => ?_
 obtain ⟨h0, h1, g1, h2, g2, h3, h4⟩ := (sz_iff t).1 hs
 have hce := cntT_eq t
 have hle0 := idsT_len t
 refine zqzd 2 (by simp only [pureD.pureL, pure_encU, pureD, Bool.and_self]) (pure_encIds _) (zqze [7] Tryz.func27 rfl (by decide +kernel) mixed (by decide +kernel) (by simp [Tryz.ntmps27]) ?_)
 show awp _ _ (Code.seq _ _) _ _
 skip
 repeat' (first | refine zqj ?_ | ((first | refine zqh fun K hK => ?_ | refine zqe (by decide +kernel) fun K hK => ?_ | refine zqr fun K hK => ?_ | refine zqq (by decide +kernel) fun K hK => ?_); (simp (disch := omega) only [go_sem, Nat.reduceBEq, Nat.reduceBeqDiff, Nat.reduceEqDiff, ↓reduceIte, reduceCtorEq, Nat.reduceAdd, Nat.reduceMul, Nat.reduceLeDiff, Nat.reduceLT, Int.reduceLT, Int.reduceLE, Int.reduceEq])) | ((first | refine zqd _ rfl (fun hc => ?_) (fun hc => ?_) | refine zqm _ rfl (fun hc => ?_) (fun hc => ?_)) <;> (first | (cases hc; done) | ((try simp only [boolS] at hc); (try (exfalso; omega))))) | refine zqa ?_ | refine zqi ?_ | refine zqb ?_ | refine zqg ?_ | refine zqc ?_ | refine zqk ?_ | refine zql ?_ | refine zqn ?_ | refine zqv ?_ | refine zqw ?_ | refine zqx ?_ | refine zqy ?_ | refine zqz ?_ | refine zqza rfl ?_ | refine zqzb ?_ | refine zqp ?_ | refine zqo ?_ | refine zqu (by (simp (disch := omega) only [go_sem, Nat.reduceBEq, Nat.reduceBeqDiff, Nat.reduceEqDiff, ↓reduceIte, reduceCtorEq, Nat.reduceAdd, Nat.reduceLeDiff, Nat.reduceLT]); rfl) rfl ?_ | (refine hK _ ?_; clear hK K) | (refine zqf (fun hb => ?_) (fun hb => ?_) <;> (have hb2 := hb; try simp only [boolS] at hb2) <;> ((first | have hb3 : (_ : Bool) = _ := hb2 | have hb3 := eq_false hb2 | have hb3 := eq_true hb2); (simp (disch := omega) only [go_sem, Nat.reduceBEq, Nat.reduceBeqDiff, Nat.reduceEqDiff, ↓reduceIte, reduceCtorEq, Nat.reduceAdd, Nat.reduceMul, Nat.reduceLeDiff, Nat.reduceLT, Int.reduceLT, Int.reduceLE, Int.reduceEq, hb, hb3]); clear hb hb3; (try (exfalso; omega)))) | (exfalso; omega))
 (refine zqzc (fun mz st => ∃ (i : _), mz = t.kids.length - i ∧ st.t 1 = .ptr 0 0 ∧ st.t 3 = .osl 1 (1 + ((t.kids.take i).flatMap nodesT).length) ∧ st.t 4 = .int .i64 i ∧ st.H 0 = some (.box 27 (cellsU t)) ∧ st.H 1 = some (.row 23 (1 + ((t.kids.take i).flatMap nodesT).length) (([t.id] ++ (t.kids.take i).flatMap idsT).flatMap cellsId)) ∧ (i ≤ t.kids.length) ∧ (2 ≤ st.nx)) ?_ ?_); rotate_left; (rintro mz st ⟨i, rfl, q1, q3, q4, qH0, qH1, qp0, qp1⟩); rotate_left
 ·(refine ⟨_, 0, rfl, ?_⟩); (simp (disch := omega) only [go_sem, Nat.reduceBEq, Nat.reduceBeqDiff, Nat.reduceEqDiff, ↓reduceIte, reduceCtorEq, Nat.reduceAdd, Nat.reduceMul, Nat.reduceLeDiff, Nat.reduceLT, Int.reduceLT, Int.reduceLE, Int.reduceEq, true_and, and_true, and_self, Int.natCast_add, Int.natCast_one, Int.natCast_zero, List.flatMap_nil, List.map_nil, List.append_nil, List.nil_append])
  try simp [cellsId]
 have hin := fun (h : i < t.kids.length) => ih t.kids[i] (List.getElem_mem h) (h4 _ (List.getElem_mem h)) (by have := cnt_kid (List.getElem_mem h); omega)
 have hb := flat_len_take t.kids (i + 1)
 by_cases hi : i < t.kids.length
 ·have hsu := flat_len_succ t.kids i hi
  have hil := idsT_len t.kids[i]
  have htk : (t.kids.take (i + 1)).flatMap idsT = (t.kids.take i).flatMap idsT ++ idsT t.kids[i] := by
   rw [List.take_succ_eq_append_getElem hi, List.flatMap_append]; simp
  repeat' (first | refine zqj ?_ | ((first | refine zqh fun K hK => ?_ | refine zqe (by decide +kernel) fun K hK => ?_ | refine zqr fun K hK => ?_ | refine zqq (by decide +kernel) fun K hK => ?_ | refine zqs (hin hi) ?_ | refine zqt (hin hi) ?_); (simp (disch := omega) only [go_sem, Nat.reduceBEq, Nat.reduceBeqDiff, Nat.reduceEqDiff, ↓reduceIte, reduceCtorEq, Nat.reduceAdd, Nat.reduceMul, Nat.reduceLeDiff, Nat.reduceLT, Int.reduceLT, Int.reduceLE, Int.reduceEq, q1, q3, q4, qH0, qH1, encUs, encIds, cellsAll_encId])) | ((first | refine zqd _ rfl (fun hc => ?_) (fun hc => ?_) | refine zqm _ rfl (fun hc => ?_) (fun hc => ?_)) <;> (first | (cases hc; done) | ((try simp only [boolS] at hc); (try (exfalso; omega))))) | refine zqa ?_ | refine zqi ?_ | refine zqb ?_ | refine zqg ?_ | refine zqc ?_ | refine zqk ?_ | refine zql ?_ | refine zqn ?_ | refine zqv ?_ | refine zqw ?_ | refine zqx ?_ | refine zqy ?_ | refine zqz ?_ | refine zqza rfl ?_ | refine zqzb ?_ | refine zqp ?_ | refine zqo ?_ | refine zqu (by (simp (disch := omega) only [go_sem, Nat.reduceBEq, Nat.reduceBeqDiff, Nat.reduceEqDiff, ↓reduceIte, reduceCtorEq, Nat.reduceAdd, Nat.reduceLeDiff, Nat.reduceLT, q1, q3, q4, qH0, qH1, encUs, encIds, cellsAll_encId]); rfl) rfl ?_ | (refine hK _ ?_; clear hK K) | (refine zqf (fun hb => ?_) (fun hb => ?_) <;> (have hb2 := hb; try simp only [boolS] at hb2) <;> ((first | have hb3 : (_ : Bool) = _ := hb2 | have hb3 := eq_false hb2 | have hb3 := eq_true hb2); (simp (disch := omega) only [go_sem, Nat.reduceBEq, Nat.reduceBeqDiff, Nat.reduceEqDiff, ↓reduceIte, reduceCtorEq, Nat.reduceAdd, Nat.reduceMul, Nat.reduceLeDiff, Nat.reduceLT, Int.reduceLT, Int.reduceLE, Int.reduceEq, hb, hb3, q1, q3, q4, qH0, qH1, encUs, encIds, cellsAll_encId]); clear hb hb3; (try (exfalso; omega)))) | (exfalso; omega))
  (refine Exists.intro _ (And.intro ?_ ⟨i + 1, rfl, ?_⟩)); rotate_left; (simp (disch := omega) only [go_sem, Nat.reduceBEq, Nat.reduceBeqDiff, Nat.reduceEqDiff, ↓reduceIte, reduceCtorEq, Nat.reduceAdd, Nat.reduceMul, Nat.reduceLeDiff, Nat.reduceLT, Int.reduceLT, Int.reduceLE, Int.reduceEq, q1, q3, q4, qH0, qH1, true_and, and_true, and_self, Int.natCast_add, Int.natCast_one, Int.natCast_zero, List.flatMap_append, List.flatMap_cons, List.flatMap_nil, List.map_append, List.map_cons, List.map_nil, List.append_nil, List.cons_append, List.nil_append, hsu, htk, hil, Nat.add_assoc, List.append_assoc]); rotate_left
  ·omega
  ·omega
 ·repeat' (first | refine zqj ?_ | ((first | refine zqh fun K hK => ?_ | refine zqe (by decide +kernel) fun K hK => ?_ | refine zqr fun K hK => ?_ | refine zqq (by decide +kernel) fun K hK => ?_ | refine zqs (hin (by omega)) ?_ | refine zqt (hin (by omega)) ?_); (simp (disch := omega) only [go_sem, Nat.reduceBEq, Nat.reduceBeqDiff, Nat.reduceEqDiff, ↓reduceIte, reduceCtorEq, Nat.reduceAdd, Nat.reduceMul, Nat.reduceLeDiff, Nat.reduceLT, Int.reduceLT, Int.reduceLE, Int.reduceEq, q1, q3, q4, qH0, qH1, encUs, encIds, cellsAll_encId])) | ((first | refine zqd _ rfl (fun hc => ?_) (fun hc => ?_) | refine zqm _ rfl (fun hc => ?_) (fun hc => ?_)) <;> (first | (cases hc; done) | ((try simp only [boolS] at hc); (try (exfalso; omega))))) | refine zqa ?_ | refine zqi ?_ | refine zqb ?_ | refine zqg ?_ | refine zqc ?_ | refine zqk ?_ | refine zql ?_ | refine zqn ?_ | refine zqv ?_ | refine zqw ?_ | refine zqx ?_ | refine zqy ?_ | refine zqz ?_ | refine zqza rfl ?_ | refine zqzb ?_ | refine zqp ?_ | refine zqo ?_ | refine zqu (by (simp (disch := omega) only [go_sem, Nat.reduceBEq, Nat.reduceBeqDiff, Nat.reduceEqDiff, ↓reduceIte, reduceCtorEq, Nat.reduceAdd, Nat.reduceLeDiff, Nat.reduceLT, q1, q3, q4, qH0, qH1, encUs, encIds, cellsAll_encId]); rfl) rfl ?_ | (refine hK _ ?_; clear hK K) | (refine zqf (fun hb => ?_) (fun hb => ?_) <;> (have hb2 := hb; try simp only [boolS] at hb2) <;> ((first | have hb3 : (_ : Bool) = _ := hb2 | have hb3 := eq_false hb2 | have hb3 := eq_true hb2); (simp (disch := omega) only [go_sem, Nat.reduceBEq, Nat.reduceBeqDiff, Nat.reduceEqDiff, ↓reduceIte, reduceCtorEq, Nat.reduceAdd, Nat.reduceMul, Nat.reduceLeDiff, Nat.reduceLT, Int.reduceLT, Int.reduceLE, Int.reduceEq, hb, hb3, q1, q3, q4, qH0, qH1, encUs, encIds, cellsAll_encId]); clear hb hb3; (try (exfalso; omega)))) | (exfalso; omega))
  have hi2 : i = t.kids.length := by omega
  subst hi2
  rw [List.take_length] at qH1
  have hle : 1 + (t.kids.flatMap nodesT).length = (idsT t).length := by rw [hle0, hce]
  rw [hle, List.singleton_append, ← idsT_eq] at qH1
  rw [List.take_length, hle]
  refine fin_of (sealD_rowAgg 0 ?_ isAggT23 sizeT23 (fun _ => rfl) (fun _ => rfl))
  simp (disch := omega) only [go_sem, Nat.reduceBEq, Nat.reduceBeqDiff, Nat.reduceEqDiff, ↓reduceIte, reduceCtorEq, Nat.reduceAdd, Nat.reduceMul, Nat.reduceLeDiff, Nat.reduceLT, Int.reduceLT, Int.reduceLE, Int.reduceEq, qH1]
end Go.Proofs.YtkhjpcmpljpmjaaGreatDoor
