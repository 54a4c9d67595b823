/-
  The walks of slices.Clone at words, and of copied. No condition but lengths.
-/
import Derived.Test.YtkhjpcmpljpmjaaGreatDoorWays
set_option maxRecDepth 100000
set_option maxHeartbeats 8000000
set_option linter.unusedSimpArgs false
set_option linter.unusedVariables false
namespace Go.Proofs.YtkhjpcmpljpmjaaGreatDoor
open Abs Facts Tr
attribute [local irreducible] awp
theorem PC_nn {P : Program} {f : FuncId} {sz : Nat} {els ds : List D} {r : D} (h1 : els = [] → PC P f (.nil :: ds) r) (h2 : PC P f (.rsl true sz els :: ds) r) : PC P f (.rsl false sz els :: ds) r := by
  refine ⟨?_, h2.2.1, h2.2.2.1, fun s w vs e1 e2 e3 e4 => ?_⟩
  · have := h2.1
    simpa only [pureD.pureL, pureD] using this
  · simp only [relAll, rel] at e4
    obtain ⟨v, q, rfl, hv, hq⟩ := e4
    rcases hv with ⟨_, he, rfl⟩ | hv
    · exact (h1 he).2.2.2 s w _ e1 e2 e3 (relAll_cons (by simp only [rel]) hq)
    · exact h2.2.2.2 s w _ e1 e2 e3 (relAll_cons (by simp only [rel]; exact .inr hv) hq)
theorem cellsAll_encWd : ∀ l : List Wd, cellsAll 4 (l.map encWd) = some (l.flatMap cellsWd)
  | [] => rfl
  | t :: w => by
    rw [List.map_cons, List.flatMap_cons]
    unfold cellsAll
    rw [cellsAll_encWd w]
    rfl
theorem pure_cellsWd (l : List Wd) : pureD.pureL (l.flatMap cellsWd) = true := pureL_flatMap (fun _ => rfl) l
theorem group_cellsWd (l : List Wd) : groupD true 4 l.length (l.flatMap cellsWd) = l.map encWd := groupD_agg (f := cellsWd) (sz := 4) (fun _ => rfl) l
theorem pc_CloneW (l : List Wd) (hl : l.length ≤ 1000000000000) : PC Tryz.prog 65 [encWs l] (encWs l) := by
  refine PC_nn (fun he => ?_) ?_
  · refine zqzd 2 rfl (pure_encWs l) (zqze [1000005, 1000007] Tryz.func65 rfl (by decide +kernel) mixed (by decide +kernel) (by simp [Tryz.ntmps65]) ?_)
    show awp _ _ (Code.seq _ _) _ _
    skip
    repeat' (first | refine zqj ?_ | ((first | refine zqh fun K hK => ?_ | refine zqe (by decide +kernel) fun K hK => ?_ | refine zqr fun K hK => ?_ | refine zqq (by decide +kernel) fun K hK => ?_); (simp (disch := omega) only [go_sem, Nat.reduceBEq, Nat.reduceBeqDiff, Nat.reduceEqDiff, ↓reduceIte, reduceCtorEq, Nat.reduceAdd, Nat.reduceMul, Nat.reduceLeDiff, Nat.reduceLT, Int.reduceLT, Int.reduceLE, Int.reduceEq])) | ((first | refine zqd _ rfl (fun hc => ?_) (fun hc => ?_) | refine zqm _ rfl (fun hc => ?_) (fun hc => ?_)) <;> (first | (cases hc; done) | ((try simp only [boolS] at hc); (try (exfalso; omega))))) | refine zqa ?_ | refine zqi ?_ | refine zqb ?_ | refine zqg ?_ | refine zqc ?_ | refine zqk ?_ | refine zql ?_ | refine zqn ?_ | refine zqv ?_ | refine zqw ?_ | refine zqx ?_ | refine zqy ?_ | refine zqz ?_ | refine zqza rfl ?_ | refine zqzb ?_ | refine zqp ?_ | refine zqo ?_ | refine zqu (by (simp (disch := omega) only [go_sem, Nat.reduceBEq, Nat.reduceBeqDiff, Nat.reduceEqDiff, ↓reduceIte, reduceCtorEq, Nat.reduceAdd, Nat.reduceLeDiff, Nat.reduceLT]); rfl) rfl ?_ | (refine hK _ ?_; clear hK K) | (refine zqf (fun hb => ?_) (fun hb => ?_) <;> (have hb2 := hb; try simp only [boolS] at hb2) <;> ((first | have hb3 : (_ : Bool) = _ := hb2 | have hb3 := eq_false hb2 | have hb3 := eq_true hb2); (simp (disch := omega) only [go_sem, Nat.reduceBEq, Nat.reduceBeqDiff, Nat.reduceEqDiff, ↓reduceIte, reduceCtorEq, Nat.reduceAdd, Nat.reduceMul, Nat.reduceLeDiff, Nat.reduceLT, Int.reduceLT, Int.reduceLE, Int.reduceEq, hb, hb3]); clear hb hb3; (try (exfalso; omega)))) | (exfalso; omega))
    exact fin_pure rfl (by have h2 : encWs l = .rsl false 4 [] := by unfold encWs; rw [he]
                           rw [h2]; exact Le.nil 4)
  · refine zqzd 2 (by simp only [pureD.pureL, pureD, pureL_map (f := encWd) (fun _ => rfl) l, Bool.and_self]) (pure_encWs l) (zqze [1000005, 1000007] Tryz.func65 rfl (by decide +kernel) mixed (by decide +kernel) (by simp [Tryz.ntmps65]) ?_)
    show awp _ _ (Code.seq _ _) _ _
    skip
    repeat' (first | refine zqj ?_ | ((first | refine zqh fun K hK => ?_ | refine zqe (by decide +kernel) fun K hK => ?_ | refine zqr fun K hK => ?_ | refine zqq (by decide +kernel) fun K hK => ?_); (simp (disch := omega) only [go_sem, Nat.reduceBEq, Nat.reduceBeqDiff, Nat.reduceEqDiff, ↓reduceIte, reduceCtorEq, Nat.reduceAdd, Nat.reduceMul, Nat.reduceLeDiff, Nat.reduceLT, Int.reduceLT, Int.reduceLE, Int.reduceEq, cellsAll_encWd, pure_cellsWd, group_cellsWd])) | ((first | refine zqd _ rfl (fun hc => ?_) (fun hc => ?_) | refine zqm _ rfl (fun hc => ?_) (fun hc => ?_)) <;> (first | (cases hc; done) | ((try simp only [boolS] at hc); (try (exfalso; omega))))) | refine zqa ?_ | refine zqi ?_ | refine zqb ?_ | refine zqg ?_ | refine zqc ?_ | refine zqk ?_ | refine zql ?_ | refine zqn ?_ | refine zqv ?_ | refine zqw ?_ | refine zqx ?_ | refine zqy ?_ | refine zqz ?_ | refine zqza rfl ?_ | refine zqzb ?_ | refine zqp ?_ | refine zqo ?_ | refine zqu (by (simp (disch := omega) only [go_sem, Nat.reduceBEq, Nat.reduceBeqDiff, Nat.reduceEqDiff, ↓reduceIte, reduceCtorEq, Nat.reduceAdd, Nat.reduceLeDiff, Nat.reduceLT, cellsAll_encWd, pure_cellsWd, group_cellsWd]); rfl) rfl ?_ | (refine hK _ ?_; clear hK K) | (refine zqf (fun hb => ?_) (fun hb => ?_) <;> (have hb2 := hb; try simp only [boolS] at hb2) <;> ((first | have hb3 : (_ : Bool) = _ := hb2 | have hb3 := eq_false hb2 | have hb3 := eq_true hb2); (simp (disch := omega) only [go_sem, Nat.reduceBEq, Nat.reduceBeqDiff, Nat.reduceEqDiff, ↓reduceIte, reduceCtorEq, Nat.reduceAdd, Nat.reduceMul, Nat.reduceLeDiff, Nat.reduceLT, Int.reduceLT, Int.reduceLE, Int.reduceEq, hb, hb3, cellsAll_encWd, pure_cellsWd, group_cellsWd]); clear hb hb3; (try (exfalso; omega)))) | (exfalso; omega))
    exact fin_pure (pure_encWs l) (Le.refl _)
namespace Tr
def smB (t : T) : Bool := recT (fun t l => decide (t.head.length ≤ 1000000) && (decide (t.words.length ≤ 1000000) && (decide (t.kids.length ≤ 1000000) && l.all id))) t
theorem sm_iff (t : T) : smB t = true ↔ t.head.length ≤ 1000000 ∧ t.words.length ≤ 1000000 ∧ t.kids.length ≤ 1000000 ∧ ∀ k ∈ t.kids, smB k = true := by
  unfold smB
  rw [recT_eq]
  simp only [List.all_map, Bool.and_eq_true, decide_eq_true_iff, List.all_eq_true]
  rfl
theorem sm_fit : ∀ t : T, smB t = true → fitB t = true := by
  refine ind1 fun t ih h => ?_
  obtain ⟨h1, h2, h3, h4⟩ := (sm_iff t).1 h
  exact (fit_iff t).2 ⟨by unfold maxLen; omega, by unfold maxLen; omega, by unfold maxLen; omega, fun k hk => ih k hk (h4 k hk)⟩
end Tr
theorem pc_copied : ∀ t : T, smB t = true → PC Tryz.prog 99 [encU t] (encU t) := by
  refine ind1 fun t ih hfit => ?_
  obtain ⟨h1, h2, h3, h4⟩ := (sm_iff t).1 hfit
  have hc1 := pc_CloneW t.head (by omega)
  have hc2 := pc_CloneW t.words (by omega)
  refine zqzd 4 (by simp only [pureD.pureL, pure_encU, pureD, Bool.and_self]) (pure_encU _) (zqze [3] Tryz.func99 rfl (by decide +kernel) mixed (by decide +kernel) (by simp [Tryz.ntmps99]) ?_)
  show awp _ _ (Code.seq _ _) _ _
  rw [show Tryz.f99.results.toList = [.cell 2 27] from rfl]
  rw [encU, cellsU_eq]
  skip
  repeat' (first | refine zqj ?_ | ((first | refine zqh fun K hK => ?_ | refine zqe (by decide +kernel) fun K hK => ?_ | refine zqr fun K hK => ?_ | refine zqq (by decide +kernel) fun K hK => ?_ | refine zqs (hc1) ?_ | refine zqt (hc1) ?_ | refine zqs (hc2) ?_ | refine zqt (hc2) ?_); (simp (disch := omega) only [go_sem, Nat.reduceBEq, Nat.reduceBeqDiff, Nat.reduceEqDiff, ↓reduceIte, reduceCtorEq, Nat.reduceAdd, Nat.reduceMul, Nat.reduceLeDiff, Nat.reduceLT, Int.reduceLT, Int.reduceLE, Int.reduceEq])) | ((first | refine zqd _ rfl (fun hc => ?_) (fun hc => ?_) | refine zqm _ rfl (fun hc => ?_) (fun hc => ?_)) <;> (first | (cases hc; done) | ((try simp only [boolS] at hc); (try (exfalso; omega))))) | refine zqa ?_ | refine zqi ?_ | refine zqb ?_ | refine zqg ?_ | refine zqc ?_ | refine zqk ?_ | refine zql ?_ | refine zqn ?_ | refine zqv ?_ | refine zqw ?_ | refine zqx ?_ | refine zqy ?_ | refine zqz ?_ | refine zqza rfl ?_ | refine zqzb ?_ | refine zqp ?_ | refine zqo ?_ | refine zqu (by (simp (disch := omega) only [go_sem, Nat.reduceBEq, Nat.reduceBeqDiff, Nat.reduceEqDiff, ↓reduceIte, reduceCtorEq, Nat.reduceAdd, Nat.reduceLeDiff, Nat.reduceLT]); rfl) rfl ?_ | (refine hK _ ?_; clear hK K) | (refine zqf (fun hb => ?_) (fun hb => ?_) <;> (have hb2 := hb; try simp only [boolS] at hb2) <;> ((first | have hb3 : (_ : Bool) = _ := hb2 | have hb3 := eq_false hb2 | have hb3 := eq_true hb2); (simp (disch := omega) only [go_sem, Nat.reduceBEq, Nat.reduceBeqDiff, Nat.reduceEqDiff, ↓reduceIte, reduceCtorEq, Nat.reduceAdd, Nat.reduceMul, Nat.reduceLeDiff, Nat.reduceLT, Int.reduceLT, Int.reduceLE, Int.reduceEq, hb, hb3]); clear hb hb3; (try (exfalso; omega)))) | (exfalso; omega))
  (refine zqzc (fun mz st => ∃ (i : _), mz = t.kids.length - i ∧ st.t 1 = .ptr 0 0 ∧ st.t 2 = .ptr 1 0 ∧ st.t 3 = .osl 2 i ∧ st.t 15 = encUs t.kids ∧ st.t 16 = .int .i64 t.kids.length ∧ st.t 17 = .int .i64 i ∧ st.H 2 = some (.row 27 i ((t.kids.take i).flatMap cellsU)) ∧ st.H 0 = some (.box 27 [.int .i64 t.id.act, .int .i64 t.id.item, .int .i64 t.id.n, .int .i64 t.kind, .str t.label, encWs t.head, encWs t.words, encUs t.kids]) ∧ st.H 1 = some (.box 27 [.int .i64 0, .int .i64 0, .int .i64 0, .int .i64 0, .str ByteArray.empty, .nil, .nil, .nil]) ∧ (i ≤ t.kids.length) ∧ (3 ≤ st.nx)) ?_ ?_); rotate_left; (rintro mz st ⟨i, rfl, q1, q2, q3, q15, q16, q17, qH2, qH0, qH1, qp0, qp1⟩); rotate_left
  · (refine ⟨_, 0, rfl, ?_⟩); (simp (disch := omega) only [go_sem, Nat.reduceBEq, Nat.reduceBeqDiff, Nat.reduceEqDiff, ↓reduceIte, reduceCtorEq, Nat.reduceAdd, Nat.reduceMul, Nat.reduceLeDiff, Nat.reduceLT, Int.reduceLT, Int.reduceLE, Int.reduceEq, true_and, and_true, and_self, Int.natCast_add, Int.natCast_one, Int.natCast_zero, List.flatMap_nil, List.map_nil, List.append_nil, List.nil_append, encUs])
    all_goals rfl
  have hin := fun (h : i < t.kids.length) => ih t.kids[i] (List.getElem_mem h) (h4 _ (List.getElem_mem h))
  repeat' (first | refine zqj ?_ | ((first | refine zqh fun K hK => ?_ | refine zqe (by decide +kernel) fun K hK => ?_ | refine zqr fun K hK => ?_ | refine zqq (by decide +kernel) fun K hK => ?_ | refine zqs (hin (by omega)) ?_ | refine zqt (hin (by omega)) ?_); (simp (disch := omega) only [go_sem, Nat.reduceBEq, Nat.reduceBeqDiff, Nat.reduceEqDiff, ↓reduceIte, reduceCtorEq, Nat.reduceAdd, Nat.reduceMul, Nat.reduceLeDiff, Nat.reduceLT, Int.reduceLT, Int.reduceLE, Int.reduceEq, q1, q2, q3, q15, q16, q17, qH2, qH0, qH1, encUs, cellsAll_encU])) | ((first | refine zqd _ rfl (fun hc => ?_) (fun hc => ?_) | refine zqm _ rfl (fun hc => ?_) (fun hc => ?_)) <;> (first | (cases hc; done) | ((try simp only [boolS] at hc); (try (exfalso; omega))))) | refine zqa ?_ | refine zqi ?_ | refine zqb ?_ | refine zqg ?_ | refine zqc ?_ | refine zqk ?_ | refine zql ?_ | refine zqn ?_ | refine zqv ?_ | refine zqw ?_ | refine zqx ?_ | refine zqy ?_ | refine zqz ?_ | refine zqza rfl ?_ | refine zqzb ?_ | refine zqp ?_ | refine zqo ?_ | refine zqu (by (simp (disch := omega) only [go_sem, Nat.reduceBEq, Nat.reduceBeqDiff, Nat.reduceEqDiff, ↓reduceIte, reduceCtorEq, Nat.reduceAdd, Nat.reduceLeDiff, Nat.reduceLT, q1, q2, q3, q15, q16, q17, qH2, qH0, qH1, encUs, cellsAll_encU]); rfl) rfl ?_ | (refine hK _ ?_; clear hK K) | (refine zqf (fun hb => ?_) (fun hb => ?_) <;> (have hb2 := hb; try simp only [boolS] at hb2) <;> ((first | have hb3 : (_ : Bool) = _ := hb2 | have hb3 := eq_false hb2 | have hb3 := eq_true hb2); (simp (disch := omega) only [go_sem, Nat.reduceBEq, Nat.reduceBeqDiff, Nat.reduceEqDiff, ↓reduceIte, reduceCtorEq, Nat.reduceAdd, Nat.reduceMul, Nat.reduceLeDiff, Nat.reduceLT, Int.reduceLT, Int.reduceLE, Int.reduceEq, hb, hb3, q1, q2, q3, q15, q16, q17, qH2, qH0, qH1, encUs, cellsAll_encU]); clear hb hb3; (try (exfalso; omega)))) | (exfalso; omega))
  · have htk := List.take_succ_eq_append_getElem (l := t.kids) (i := i) (by omega)
    (refine Exists.intro _ (And.intro ?_ ⟨i + 1, rfl, ?_⟩)); rotate_left; (simp (disch := omega) only [go_sem, Nat.reduceBEq, Nat.reduceBeqDiff, Nat.reduceEqDiff, ↓reduceIte, reduceCtorEq, Nat.reduceAdd, Nat.reduceMul, Nat.reduceLeDiff, Nat.reduceLT, Int.reduceLT, Int.reduceLE, Int.reduceEq, q1, q2, q3, q15, q16, q17, qH2, qH0, qH1, true_and, and_true, and_self, Int.natCast_add, Int.natCast_one, Int.natCast_zero, List.flatMap_append, List.flatMap_cons, List.flatMap_nil, List.map_append, List.map_cons, List.map_nil, List.append_nil, List.cons_append, List.nil_append, htk]); rotate_left
    all_goals omega
  have hi : i = t.kids.length := by omega
  subst hi
  rw [List.take_length] at qH2
  refine fin_of (sealD_agg (k := 3) (by simp [pureD.pureL, pureD]) ?_)
  simp only [encUs]
  refine optL_cons (sealD_pure 2 rfl) (optL_cons (sealD_pure 2 rfl) (optL_cons (sealD_pure 2 rfl) (optL_cons (sealD_pure 2 rfl) (optL_cons (sealD_pure 2 rfl) (optL_cons (sealD_pure 2 (pure_encWs _)) (optL_cons (sealD_pure 2 (pure_encWs _)) (optL_cons ?_ optL_nil)))))))
  refine sealD_rowAgg (f := cellsU) (l := t.kids) 1 ?_ isAggT27 sizeT27 cellsU_length pure_cellsU
  (simp (disch := omega) only [go_sem, Nat.reduceBEq, Nat.reduceBeqDiff, Nat.reduceEqDiff, ↓reduceIte, reduceCtorEq, Nat.reduceAdd, Nat.reduceMul, Nat.reduceLeDiff, Nat.reduceLT, Int.reduceLT, Int.reduceLE, Int.reduceEq, q1, q2, q3, q15, q16, q17, qH2, qH0, qH1])
end Go.Proofs.YtkhjpcmpljpmjaaGreatDoor
