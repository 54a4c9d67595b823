/-
  The walks of Depth, way, Find, Parent, Ancestors. No condition but lengths.
-/
import Derived.Test.YtkhjpcmpljpmjaaDoorWsRow
set_option maxRecDepth 100000
set_option maxHeartbeats 8000000
set_option linter.unusedSimpArgs false
set_option linter.unusedVariables false
namespace Go.Proofs.YtkhjpcmpljpmjaaDoor
open Abs Facts Tr
attribute [local irreducible] awp
namespace Tr
def depF (l : List Nat) : Nat := l.foldl (fun d x => max d (1 + x)) 0
def depT (t : T) : Nat := recT (fun _ l => depF l) t
theorem depT_eq (t : T) : depT t = depF (t.kids.map depT) := by unfold depT; rw [recT_eq]
theorem depF_snoc (l : List Nat) (x : Nat) : depF (l ++ [x]) = max (depF l) (1 + x) := by unfold depF; rw [List.foldl_append]; rfl
theorem depF_le {l : List Nat} : ∀ (a : Nat), (a ≤ l.foldl (fun d x => max d (1 + x)) a) ∧ ∀ x ∈ l, 1 + x ≤ l.foldl (fun d x => max d (1 + x)) a := by
  induction l with
  | nil => intro a; simp
  | cons y l ih =>
    intro a
    simp only [List.foldl_cons]
    obtain ⟨h1, h2⟩ := ih (max a (1 + y))
    refine ⟨by omega, fun x hx => ?_⟩
    rcases List.mem_cons.1 hx with rfl | hx
    · omega
    · exact h2 x hx
theorem depT_kid {t k : T} (h : k ∈ t.kids) : 1 + depT k ≤ depT t := by
  rw [depT_eq t]
  exact (depF_le 0).2 _ (List.mem_map.2 ⟨k, h, rfl⟩)
end Tr
theorem pc_Depth : ∀ t : T, fitB t = true → depT t ≤ 1000000000 → PC Tryd.prog 21 [encU t] (.int .i64 (depT t)) := by
  refine ind1 fun t ih hfit hd => ?_
  obtain ⟨h1, h2, h3, h4⟩ := (fit_iff t).1 hfit
  unfold maxLen at h3
  refine PC_intro 1 (by simp only [pureD.pureL, pure_encU, pureD, Bool.and_self]) rfl (AC_intro [] Tryd.func21 rfl (by decide +kernel) mixed (by decide +kernel) (by simp [Tryd.ntmps21]) ?_)
  show awp _ _ (Code.seq _ _) _ _
  skip
  repeat' (first | refine awp_assoc ?_ | ((first | refine awp_seq_reg fun K hK => ?_ | refine awp_seq_draw (by decide +kernel) fun K hK => ?_ | refine awp_reg' fun K hK => ?_ | refine awp_draw' (by decide +kernel) fun K hK => ?_); (simp (disch := omega) only [go_sem, Nat.reduceBEq, Nat.reduceBeqDiff, Nat.reduceEqDiff, ↓reduceIte, reduceCtorEq, Nat.reduceAdd, Nat.reduceMul, Nat.reduceLeDiff, Nat.reduceLT, Int.reduceLT, Int.reduceLE, Int.reduceEq])) | ((first | refine awp_seq_cond _ rfl (fun hc => ?_) (fun hc => ?_) | refine awp_cond _ rfl (fun hc => ?_) (fun hc => ?_)) <;> (first | (cases hc; done) | ((try simp only [boolS] at hc); (try (exfalso; omega))))) | refine awp_seq_block ?_ | refine awp_block ?_ | refine awp_seq_skip ?_ | refine awp_seq_ret ?_ | refine awp_seq_exit ?_ | refine awp_skip ?_ | refine awp_exit ?_ | refine awp_ret ?_ | refine seqK_n ?_ | refine seqK_e ?_ | refine seqK_r ?_ | refine blkK_n ?_ | refine blkK_e ?_ | refine blkK_o rfl ?_ | refine blkK_r ?_ | refine loopK_e ?_ | refine loopK_r ?_ | refine retQ_E (by (simp (disch := omega) only [go_sem, Nat.reduceBEq, Nat.reduceBeqDiff, Nat.reduceEqDiff, ↓reduceIte, reduceCtorEq, Nat.reduceAdd, Nat.reduceMul, Nat.reduceLeDiff, Nat.reduceLT, Int.reduceLT, Int.reduceLE, Int.reduceEq]); rfl) rfl ?_ | (refine hK _ ?_; clear hK K) | (refine stepG_split (fun hb => ?_) (fun hb => ?_) <;> (have hb2 := hb; try simp only [boolS] at hb2) <;> ((first | have hb3 : (_ : Bool) = _ := hb2 | have hb3 := eq_false hb2 | have hb3 := eq_true hb2); (simp (disch := omega) only [go_sem, Nat.reduceBEq, Nat.reduceBeqDiff, Nat.reduceEqDiff, ↓reduceIte, reduceCtorEq, Nat.reduceAdd, Nat.reduceMul, Nat.reduceLeDiff, Nat.reduceLT, Int.reduceLT, Int.reduceLE, Int.reduceEq, hb, hb3]); clear hb hb3; (try (exfalso; omega)))) | (exfalso; omega))
  (refine awp_loop' (fun mz st => ∃ (i : _), mz = t.kids.length - i ∧ st.t 3 = .int .i64 (depF ((t.kids.take i).map depT) : Nat) ∧ st.t 7 = encUs t.kids ∧ st.t 8 = .int .i64 t.kids.length ∧ st.t 9 = .int .i64 i ∧ (i ≤ t.kids.length) ∧ (1 ≤ st.nx)) ?_ ?_); rotate_left; (rintro mz st ⟨i, rfl, q3, q7, q8, q9, qp0, qp1⟩); rotate_left
  · (refine ⟨_, 0, rfl, ?_⟩); (simp (disch := omega) only [go_sem, Nat.reduceBEq, Nat.reduceBeqDiff, Nat.reduceEqDiff, ↓reduceIte, reduceCtorEq, Nat.reduceAdd, Nat.reduceMul, Nat.reduceLeDiff, Nat.reduceLT, Int.reduceLT, Int.reduceLE, Int.reduceEq, true_and, and_true, and_self, Int.natCast_add, Int.natCast_one, Int.natCast_zero, List.flatMap_nil, List.map_nil, List.append_nil, List.nil_append, encUs])
    rfl
  have hin := fun (h : i < t.kids.length) => ih t.kids[i] (List.getElem_mem h) (h4 _ (List.getElem_mem h)) (by have := depT_kid (List.getElem_mem h); omega)
  have hk := fun (h : i < t.kids.length) => depT_kid (t := t) (List.getElem_mem h)
  have hsn : ∀ h : i < t.kids.length, depF ((t.kids.take (i + 1)).map depT) = max (depF ((t.kids.take i).map depT)) (1 + depT t.kids[i]) := fun h => by
    rw [List.take_succ_eq_append_getElem h, List.map_append, List.map_cons, List.map_nil, depF_snoc]
  repeat' (first | refine awp_assoc ?_ | ((first | refine awp_seq_reg fun K hK => ?_ | refine awp_seq_draw (by decide +kernel) fun K hK => ?_ | refine awp_reg' fun K hK => ?_ | refine awp_draw' (by decide +kernel) fun K hK => ?_ | refine callW_pc (hin (by omega)) ?_ | refine callD_pc (hin (by omega)) ?_); (simp (disch := omega) only [go_sem, Nat.reduceBEq, Nat.reduceBeqDiff, Nat.reduceEqDiff, ↓reduceIte, reduceCtorEq, Nat.reduceAdd, Nat.reduceMul, Nat.reduceLeDiff, Nat.reduceLT, Int.reduceLT, Int.reduceLE, Int.reduceEq, q3, q7, q8, q9, encUs])) | ((first | refine awp_seq_cond _ rfl (fun hc => ?_) (fun hc => ?_) | refine awp_cond _ rfl (fun hc => ?_) (fun hc => ?_)) <;> (first | (cases hc; done) | ((try simp only [boolS] at hc); (try (exfalso; omega))))) | refine awp_seq_block ?_ | refine awp_block ?_ | refine awp_seq_skip ?_ | refine awp_seq_ret ?_ | refine awp_seq_exit ?_ | refine awp_skip ?_ | refine awp_exit ?_ | refine awp_ret ?_ | refine seqK_n ?_ | refine seqK_e ?_ | refine seqK_r ?_ | refine blkK_n ?_ | refine blkK_e ?_ | refine blkK_o rfl ?_ | refine blkK_r ?_ | refine loopK_e ?_ | refine loopK_r ?_ | refine retQ_E (by (simp (disch := omega) only [go_sem, Nat.reduceBEq, Nat.reduceBeqDiff, Nat.reduceEqDiff, ↓reduceIte, reduceCtorEq, Nat.reduceAdd, Nat.reduceMul, Nat.reduceLeDiff, Nat.reduceLT, Int.reduceLT, Int.reduceLE, Int.reduceEq, q3, q7, q8, q9, encUs]); rfl) rfl ?_ | (refine hK _ ?_; clear hK K) | (refine stepG_split (fun hb => ?_) (fun hb => ?_) <;> (have hb2 := hb; try simp only [boolS] at hb2) <;> ((first | have hb3 : (_ : Bool) = _ := hb2 | have hb3 := eq_false hb2 | have hb3 := eq_true hb2); (simp (disch := omega) only [go_sem, Nat.reduceBEq, Nat.reduceBeqDiff, Nat.reduceEqDiff, ↓reduceIte, reduceCtorEq, Nat.reduceAdd, Nat.reduceMul, Nat.reduceLeDiff, Nat.reduceLT, Int.reduceLT, Int.reduceLE, Int.reduceEq, hb, hb3, q3, q7, q8, q9, encUs]); clear hb hb3; (try (exfalso; omega)))) | (exfalso; omega))
  · have hs := hsn (by omega)
    (refine Exists.intro _ (And.intro ?_ ⟨i + 1, rfl, ?_⟩)); rotate_left; (simp (disch := omega) only [go_sem, Nat.reduceBEq, Nat.reduceBeqDiff, Nat.reduceEqDiff, ↓reduceIte, reduceCtorEq, Nat.reduceAdd, Nat.reduceMul, Nat.reduceLeDiff, Nat.reduceLT, Int.reduceLT, Int.reduceLE, Int.reduceEq, q3, q7, q8, q9, true_and, and_true, and_self, Int.natCast_add, Int.natCast_one, Int.natCast_zero, List.flatMap_append, List.flatMap_cons, List.flatMap_nil, List.map_append, List.map_cons, List.map_nil, List.append_nil, List.cons_append, List.nil_append, hs]); rotate_left
    · omega
    · have := hk (by omega); refine ⟨?_, by omega⟩
      rw [wrapI (by omega)]; omega
  · refine fin_int ?_
    have hi : i = t.kids.length := by omega
    subst hi
    rw [List.take_length, ← depT_eq]
namespace Tr
end Tr
theorem cellsAll_encU : ∀ w : List T, cellsAll 8 (w.map encU) = some (w.flatMap cellsU)
  | [] => rfl
  | t :: w => by
    rw [List.map_cons, List.flatMap_cons]
    unfold cellsAll
    rw [cellsAll_encU w]
    simp only [encU, cellsD, cellsU_length, if_true]
end Go.Proofs.YtkhjpcmpljpmjaaDoor
