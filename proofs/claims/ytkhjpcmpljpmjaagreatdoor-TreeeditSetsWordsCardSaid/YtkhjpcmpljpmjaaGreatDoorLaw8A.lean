/-
  The example of the chapter; the laws TreeeditInserts and TreeeditRemoves. No condition but lengths.
-/
import Derived.Test.YtkhjpcmpljpmjaaGreatDoorEdMove
set_option maxRecDepth 100000
set_option maxHeartbeats 8000000
set_option linter.unusedSimpArgs false
set_option linter.unusedVariables false
namespace Go.Proofs.YtkhjpcmpljpmjaaGreatDoor
open Abs Facts Tr
attribute [local irreducible] awp
namespace Tr
def exX (n : Int) : T := .mk ⟨1, 0, n⟩ 2 ⟨#[49]⟩ [] [] []
def exU : T := .mk Idv.zero 0 ByteArray.empty [] [] [exX 1]
def exC (n : Int) : List D := [.int .i64 1, .int .i64 0, .int .i64 n, .int .i64 2, .str ⟨#[49]⟩, .nil, .nil, .nil]
theorem le_ex (n : Int) : Le (.agg (exC n)) (encU (exX n)) := by
  rw [encU, cellsU_eq]
  exact Le.agg ⟨Le.refl _, Le.refl _, Le.refl _, Le.refl _, Le.refl _, Le.nil 4, Le.nil 4, Le.nil 8, trivial⟩
end Tr
theorem pc_awake8 : PC Tryz.prog 10 [] (.bool true) := by
  have z0 : szB T.zero = true := sz_zero
  have z1 : szB (exX 1) = true := by decide +kernel
  have z2 : szB (exX 2) = true := by decide +kernel
  have z3 : szB exU = true := by decide +kernel
  have c1 := (pc_Insert T.zero (exX 1) z0 z1 (by decide +kernel) (by decide +kernel) (by decide +kernel) (by decide +kernel) Idv.zero 0).le (ds := [.agg [.int .i64 0, .int .i64 0, .int .i64 0, .int .i64 0, .str ByteArray.empty, .nil, .nil, .nil], encId Idv.zero, .int .i64 0, .agg (exC 1)]) rfl ⟨le_zeroU, Le.refl _, Le.refl _, le_ex 1, trivial⟩
  rw [show wrongT T.zero Idv.zero 0 (exX 1) = 0 from by decide +kernel, if_neg (by decide), show editT Idv.zero (insK (0 : Int).toNat (exX 1)) T.zero = exU from by decide +kernel] at c1
  have c2 := (pc_Insert exU (exX 2) z3 z2 (by decide +kernel) (by decide +kernel) (by decide +kernel) (by decide +kernel) Idv.zero 0).le (ds := [encU exU, encId Idv.zero, .int .i64 0, .agg (exC 2)]) (by simp only [pureD.pureL, pure_encU, pureD, exC, Bool.and_self]; rfl) ⟨Le.refl _, Le.refl _, Le.refl _, le_ex 2, trivial⟩
  rw [show wrongT exU Idv.zero 0 (exX 2) = 10 from by decide +kernel, if_pos (by decide)] at c2
  have c3 := pc_Remove exU z3 (by decide +kernel) (by decide +kernel) ⟨1, 0, 1⟩
  rw [show takeE exU ⟨1, 0, 1⟩ = 0 from by decide +kernel, if_pos rfl, if_pos rfl, show wipeT ⟨1, 0, 1⟩ exU = T.zero from by decide +kernel, show (findR ⟨1, 0, 1⟩ exU).1 = exX 1 from by decide +kernel] at c3
  have c4 := (pc_CanInsert exU (exX 2) z3 z2 (by decide +kernel) (by decide +kernel) (by decide +kernel) (by decide +kernel) Idv.zero).le (ds := [encU exU, encId Idv.zero, .agg (exC 2)]) (by simp only [pureD.pureL, pure_encU, pureD, exC, Bool.and_self]; rfl) ⟨Le.refl _, Le.refl _, le_ex 2, trivial⟩
  rw [show wrongT exU Idv.zero 0 (exX 2) = 10 from by decide +kernel] at c4
  refine PC_intro 1 rfl rfl (AC_intro [] Tryz.func10 rfl (by decide +kernel) mixed (by decide +kernel) (by simp [Tryz.ntmps10]) ?_)
  show awp _ _ (Code.seq _ _) _ _
  skip
  repeat' (first | refine awp_assoc ?_ | ((first | refine awp_seq_reg fun K hK => ?_ | refine awp_seq_draw (by decide +kernel) fun K hK => ?_ | refine awp_reg' fun K hK => ?_ | refine awp_draw' (by decide +kernel) fun K hK => ?_ | refine callW_pc (c1) ?_ | refine callD_pc (c1) ?_ | refine callW_pc (c2) ?_ | refine callD_pc (c2) ?_ | refine callW_pc (c3) ?_ | refine callD_pc (c3) ?_ | refine callW_pc (c4) ?_ | refine callD_pc (c4) ?_); (simp (disch := omega) only [go_sem, Nat.reduceBEq, Nat.reduceBeqDiff, Nat.reduceEqDiff, ↓reduceIte, reduceCtorEq, Nat.reduceAdd, Nat.reduceMul, Nat.reduceLeDiff, Nat.reduceLT, Int.reduceLT, Int.reduceLE, Int.reduceEq, encUs, List.set_cons_succ, List.set_cons_zero])) | ((first | refine awp_seq_cond _ rfl (fun hc => ?_) (fun hc => ?_) | refine awp_cond _ rfl (fun hc => ?_) (fun hc => ?_)) <;> (first | (cases hc; done) | ((try simp only [boolS] at hc); (try (exfalso; omega))))) | refine awp_seq_block ?_ | refine awp_block ?_ | refine awp_seq_skip ?_ | refine awp_seq_ret ?_ | refine awp_seq_exit ?_ | refine awp_skip ?_ | refine awp_exit ?_ | refine awp_ret ?_ | refine seqK_n ?_ | refine seqK_e ?_ | refine seqK_r ?_ | refine blkK_n ?_ | refine blkK_e ?_ | refine blkK_o rfl ?_ | refine blkK_r ?_ | refine loopK_e ?_ | refine loopK_r ?_ | refine retQ_E (by (simp (disch := omega) only [go_sem, Nat.reduceBEq, Nat.reduceBeqDiff, Nat.reduceEqDiff, ↓reduceIte, reduceCtorEq, Nat.reduceAdd, Nat.reduceMul, Nat.reduceLeDiff, Nat.reduceLT, Int.reduceLT, Int.reduceLE, Int.reduceEq, encUs, List.set_cons_succ, List.set_cons_zero]); rfl) rfl ?_ | (refine hK _ ?_; clear hK K) | (refine stepG_split (fun hb => ?_) (fun hb => ?_) <;> (have hb2 := hb; try simp only [boolS] at hb2) <;> ((first | have hb3 : (_ : Bool) = _ := hb2 | have hb3 := eq_false hb2 | have hb3 := eq_true hb2); (simp (disch := omega) only [go_sem, Nat.reduceBEq, Nat.reduceBeqDiff, Nat.reduceEqDiff, ↓reduceIte, reduceCtorEq, Nat.reduceAdd, Nat.reduceMul, Nat.reduceLeDiff, Nat.reduceLT, Int.reduceLT, Int.reduceLE, Int.reduceEq, hb, hb3, encUs, List.set_cons_succ, List.set_cons_zero]); clear hb hb3; (try (exfalso; omega)))) | (exfalso; omega))
  all_goals first | exact fin_bool rfl | exact absurd rfl hb2
theorem pc_same8 (u w : T) (hu : szB u = true) (hw : szB w = true) (e k : Int) : PC Tryz.prog 13 [encU u, .int .i64 e, encU w, .int .i64 k] (.bool (decide (e = k) && decide (u = w))) := by
  have c1 := pc_Same u hu w hw
  refine PC_intro 1 (by simp only [pureD.pureL, pure_encU, pureD, Bool.and_self]) rfl (AC_intro [] Tryz.func13 rfl (by decide +kernel) mixed (by decide +kernel) (by simp [Tryz.ntmps13]) ?_)
  show awp _ _ (Code.seq _ _) _ _
  skip
  repeat' (first | refine awp_assoc ?_ | ((first | refine awp_seq_reg fun K hK => ?_ | refine awp_seq_draw (by decide +kernel) fun K hK => ?_ | refine awp_reg' fun K hK => ?_ | refine awp_draw' (by decide +kernel) fun K hK => ?_ | refine callW_pc (c1) ?_ | refine callD_pc (c1) ?_); (simp (disch := omega) only [go_sem, Nat.reduceBEq, Nat.reduceBeqDiff, Nat.reduceEqDiff, ↓reduceIte, reduceCtorEq, Nat.reduceAdd, Nat.reduceMul, Nat.reduceLeDiff, Nat.reduceLT, Int.reduceLT, Int.reduceLE, Int.reduceEq])) | ((first | refine awp_seq_cond _ rfl (fun hc => ?_) (fun hc => ?_) | refine awp_cond _ rfl (fun hc => ?_) (fun hc => ?_)) <;> (first | (cases hc; done) | ((try simp only [boolS] at hc); (try (exfalso; omega))))) | refine awp_seq_block ?_ | refine awp_block ?_ | refine awp_seq_skip ?_ | refine awp_seq_ret ?_ | refine awp_seq_exit ?_ | refine awp_skip ?_ | refine awp_exit ?_ | refine awp_ret ?_ | refine seqK_n ?_ | refine seqK_e ?_ | refine seqK_r ?_ | refine blkK_n ?_ | refine blkK_e ?_ | refine blkK_o rfl ?_ | refine blkK_r ?_ | refine loopK_e ?_ | refine loopK_r ?_ | refine retQ_E (by (simp (disch := omega) only [go_sem, Nat.reduceBEq, Nat.reduceBeqDiff, Nat.reduceEqDiff, ↓reduceIte, reduceCtorEq, Nat.reduceAdd, Nat.reduceMul, Nat.reduceLeDiff, Nat.reduceLT, Int.reduceLT, Int.reduceLE, Int.reduceEq]); rfl) rfl ?_ | (refine hK _ ?_; clear hK K) | (refine stepG_split (fun hb => ?_) (fun hb => ?_) <;> (have hb2 := hb; try simp only [boolS] at hb2) <;> ((first | have hb3 : (_ : Bool) = _ := hb2 | have hb3 := eq_false hb2 | have hb3 := eq_true hb2); (simp (disch := omega) only [go_sem, Nat.reduceBEq, Nat.reduceBeqDiff, Nat.reduceEqDiff, ↓reduceIte, reduceCtorEq, Nat.reduceAdd, Nat.reduceMul, Nat.reduceLeDiff, Nat.reduceLT, Int.reduceLT, Int.reduceLE, Int.reduceEq, hb, hb3]); clear hb hb3; (try (exfalso; omega)))) | (exfalso; omega))
  all_goals exact fin_bool (by simp [hb2])
namespace Tr
theorem sz_ite {c : Prop} [Decidable c] {a b : T} (ha : szB a = true) (hb : szB b = true) : szB (if c then a else b) = true := by split <;> assumption
end Tr
end Go.Proofs.YtkhjpcmpljpmjaaGreatDoor
