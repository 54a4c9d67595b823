/-
  The laws TreeeditRemoveInverse, TreeeditMoveInverse, TreeeditMoves. No condition but lengths.
-/
import Derived.Test.YtkhjpcmpljpmjaaGreatDoorLaw8A
import Derived.Test.YtkhjpcmpljpmjaaGreatDoorEdMoveB
import Derived.Test.YtkhjpcmpljpmjaaGreatDoorRefMove
set_option maxRecDepth 100000
set_option maxHeartbeats 8000000
set_option linter.unusedSimpArgs false
set_option linter.unusedVariables false
namespace Go.Proofs.YtkhjpcmpljpmjaaGreatDoor
open Abs Facts Tr
attribute [local irreducible] awp
namespace Tr
theorem take_zero {u x : T} {id : Idv} (h1 : standsT u = true) (h2 : findR id u = (x, true)) (h3 : ¬ u.id = id) : takeE u id = 0 := by
  unfold takeE; rw [if_neg (by rw [h1]; simp), if_neg (by rw [h2]; simp), if_neg h3]
theorem sz_moveE {u : T} (hu : szB u = true) (id parent : Idv) (i : Int) : szB (if moveE u id parent i = 0 then editT parent (insK i.toNat (findR id u).1) (wipeT id u) else T.zero) = true := by
  by_cases h : moveE u id parent i = 0
  · rw [if_pos h]
    obtain ⟨_, _, _, _, _, hw⟩ := move_ok h
    obtain ⟨_, _, n, rfl, _⟩ := wrong_ok hw
    exact sz_inserted (sz_wipe u hu) (sz_find id u hu) hw
  · rw [if_neg h]; exact sz_zero
end Tr
theorem pc_LawMoves (u : T) (hfu : fitB u = true) (id parent : Idv) (i : Int) : PC Tryz.prog 7 [encU u, encId id, encId parent, .int .i64 i] (.bool true) := by
  have ha := pc_awake8
  have hf1 := pc_Few u hfu 30 (by omega) (by omega)
  refine PC_intro 1 (by simp only [pureD.pureL, pure_encU, pureD, Bool.and_self]; rfl) rfl (AC_intro [] Tryz.func7 rfl (by decide +kernel) mixed (by decide +kernel) (by simp [Tryz.ntmps7]) ?_)
  show awp _ _ (Code.seq _ _) _ _
  skip
  by_cases h1 : fewB u 30 = true
  · obtain ⟨hsu, hcu, hdu⟩ := few_sz (by omega) (by omega) h1
    rw [h1] at hf1
    have c1 := pc_Move u hsu (by omega) (by omega) id parent i
    have c2 := pc_MoveR u hsu (by omega) (by omega) id parent i
    have z1 := sz_moveE hsu id parent i
    have c3 := pc_same8 _ _ z1 z1 (moveE u id parent i) (moveE u id parent i)
    rw [decide_eq_true rfl, decide_eq_true rfl, Bool.and_self] at c3
    generalize (if moveE u id parent i = 0 then editT parent (insK i.toNat (findR id u).1) (wipeT id u) else T.zero) = v at c1 c2 c3
    repeat' (first | refine awp_assoc ?_ | ((first | refine awp_seq_reg fun K hK => ?_ | refine awp_seq_draw (by decide +kernel) fun K hK => ?_ | refine awp_reg' fun K hK => ?_ | refine awp_draw' (by decide +kernel) fun K hK => ?_ | refine callW_pc (ha) ?_ | refine callD_pc (ha) ?_ | refine callW_pc (hf1) ?_ | refine callD_pc (hf1) ?_ | refine callW_pc (c1) ?_ | refine callD_pc (c1) ?_ | refine callW_pc (c2) ?_ | refine callD_pc (c2) ?_ | refine callW_pc (c3) ?_ | refine callD_pc (c3) ?_); (simp (disch := omega) only [go_sem, Nat.reduceBEq, Nat.reduceBeqDiff, Nat.reduceEqDiff, ↓reduceIte, reduceCtorEq, Nat.reduceAdd, Nat.reduceMul, Nat.reduceLeDiff, Nat.reduceLT, Int.reduceLT, Int.reduceLE, Int.reduceEq, cellsId])) | ((first | refine awp_seq_cond _ rfl (fun hc => ?_) (fun hc => ?_) | refine awp_cond _ rfl (fun hc => ?_) (fun hc => ?_)) <;> (first | (cases hc; done) | ((try simp only [boolS] at hc); (try (exfalso; omega))))) | refine awp_seq_block ?_ | refine awp_block ?_ | refine awp_seq_skip ?_ | refine awp_seq_ret ?_ | refine awp_seq_exit ?_ | refine awp_skip ?_ | refine awp_exit ?_ | refine awp_ret ?_ | refine seqK_n ?_ | refine seqK_e ?_ | refine seqK_r ?_ | refine blkK_n ?_ | refine blkK_e ?_ | refine blkK_o rfl ?_ | refine blkK_r ?_ | refine loopK_e ?_ | refine loopK_r ?_ | refine retQ_E (by (simp (disch := omega) only [go_sem, Nat.reduceBEq, Nat.reduceBeqDiff, Nat.reduceEqDiff, ↓reduceIte, reduceCtorEq, Nat.reduceAdd, Nat.reduceMul, Nat.reduceLeDiff, Nat.reduceLT, Int.reduceLT, Int.reduceLE, Int.reduceEq, cellsId]); rfl) rfl ?_ | (refine hK _ ?_; clear hK K) | (refine stepG_split (fun hb => ?_) (fun hb => ?_) <;> (have hb2 := hb; try simp only [boolS] at hb2) <;> ((first | have hb3 : (_ : Bool) = _ := hb2 | have hb3 := eq_false hb2 | have hb3 := eq_true hb2); (simp (disch := omega) only [go_sem, Nat.reduceBEq, Nat.reduceBeqDiff, Nat.reduceEqDiff, ↓reduceIte, reduceCtorEq, Nat.reduceAdd, Nat.reduceMul, Nat.reduceLeDiff, Nat.reduceLT, Int.reduceLT, Int.reduceLE, Int.reduceEq, hb, hb3, cellsId]); clear hb hb3; (try (exfalso; omega)))) | (exfalso; omega))
    exact fin_bool rfl
  · rw [Bool.not_eq_true] at h1
    rw [h1] at hf1
    repeat' (first | refine awp_assoc ?_ | ((first | refine awp_seq_reg fun K hK => ?_ | refine awp_seq_draw (by decide +kernel) fun K hK => ?_ | refine awp_reg' fun K hK => ?_ | refine awp_draw' (by decide +kernel) fun K hK => ?_ | refine callW_pc (ha) ?_ | refine callD_pc (ha) ?_ | refine callW_pc (hf1) ?_ | refine callD_pc (hf1) ?_); (simp (disch := omega) only [go_sem, Nat.reduceBEq, Nat.reduceBeqDiff, Nat.reduceEqDiff, ↓reduceIte, reduceCtorEq, Nat.reduceAdd, Nat.reduceMul, Nat.reduceLeDiff, Nat.reduceLT, Int.reduceLT, Int.reduceLE, Int.reduceEq, cellsId])) | ((first | refine awp_seq_cond _ rfl (fun hc => ?_) (fun hc => ?_) | refine awp_cond _ rfl (fun hc => ?_) (fun hc => ?_)) <;> (first | (cases hc; done) | ((try simp only [boolS] at hc); (try (exfalso; omega))))) | refine awp_seq_block ?_ | refine awp_block ?_ | refine awp_seq_skip ?_ | refine awp_seq_ret ?_ | refine awp_seq_exit ?_ | refine awp_skip ?_ | refine awp_exit ?_ | refine awp_ret ?_ | refine seqK_n ?_ | refine seqK_e ?_ | refine seqK_r ?_ | refine blkK_n ?_ | refine blkK_e ?_ | refine blkK_o rfl ?_ | refine blkK_r ?_ | refine loopK_e ?_ | refine loopK_r ?_ | refine retQ_E (by (simp (disch := omega) only [go_sem, Nat.reduceBEq, Nat.reduceBeqDiff, Nat.reduceEqDiff, ↓reduceIte, reduceCtorEq, Nat.reduceAdd, Nat.reduceMul, Nat.reduceLeDiff, Nat.reduceLT, Int.reduceLT, Int.reduceLE, Int.reduceEq, cellsId]); rfl) rfl ?_ | (refine hK _ ?_; clear hK K) | (refine stepG_split (fun hb => ?_) (fun hb => ?_) <;> (have hb2 := hb; try simp only [boolS] at hb2) <;> ((first | have hb3 : (_ : Bool) = _ := hb2 | have hb3 := eq_false hb2 | have hb3 := eq_true hb2); (simp (disch := omega) only [go_sem, Nat.reduceBEq, Nat.reduceBeqDiff, Nat.reduceEqDiff, ↓reduceIte, reduceCtorEq, Nat.reduceAdd, Nat.reduceMul, Nat.reduceLeDiff, Nat.reduceLT, Int.reduceLT, Int.reduceLE, Int.reduceEq, hb, hb3, cellsId]); clear hb hb3; (try (exfalso; omega)))) | (exfalso; omega))
    exact fin_bool rfl
end Go.Proofs.YtkhjpcmpljpmjaaGreatDoor
