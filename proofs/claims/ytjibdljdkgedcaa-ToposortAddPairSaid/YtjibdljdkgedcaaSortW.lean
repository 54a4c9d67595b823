/-
  The walk of the law ToposortSort. No condition but lengths.
-/
import Derived.Test.YtjibdljdkgedcaaAwake
import Derived.Test.YtjibdljdkgedcaaOrders
namespace Go.Proofs.Ytjibdljdkgedcaa
open Abs Facts Topo
attribute [local irreducible] awp
namespace Topo
theorem wrong_pos {n : Int} {l : List Pr} (h : wrong n l = 0) : ∃ m : Nat, n = m ∧ m ≤ 16 ∧ okL m l ∧ l.length ≤ 64 ∧ graphL n l = edges l := by
  unfold wrong at h
  split at h
  · cases h
  · rename_i hn
    split at h
    · rename_i ha
      split at h
      · cases h
      · refine ⟨n.toNat, by omega, by omega, fun p hp => ?_, by omega, ?_⟩
        · have := List.all_eq_true.1 ha p hp
          rwa [show ((n.toNat : Nat) : Int) = n by omega]
        · unfold graphL
          rw [if_neg hn, takeWhile_all _ _ ha]
    · cases h
theorem sortR_ok {m : Nat} {l : List Pr} (hm : m ≤ 16) (hl : okL m l) (hg : graphL m l = edges l) (h : wrong m l = 0) : sortR m l = match orderF l m m [] with | none => (14, []) | some out => (0, out) := by
  unfold sortR
  rw [if_neg (by simp [h]), hg, Int.toNat_natCast, sortF_eq hm hl m [] 0 (fun i _ => by simp)]
  cases orderF l m m [] <;> rfl
end Topo
set_option maxRecDepth 100000 in
set_option maxHeartbeats 8000000 in
theorem pc_LawSort (n : Int) (l : List Pr) (hl : l.length ≤ maxLen) : PC Try.prog 3 [.int .i64 n, encPs l] (.bool true) := by
  refine PC_intro 1 (by simp only [pureD.pureL, pure_encPs, pureD, Bool.and_self]) rfl (AC_intro [] Try.func3 rfl (by decide +kernel) mixed (by decide +kernel) (by simp [Try.ntmps3]) ?_)
  show awp _ _ (Code.seq _ _) _ _
  have hps := pc_Sort n l hl
  have hpw := pc_Wrong n l hl
  by_cases hw : wrong n l = 0
  · obtain ⟨m, rfl, hm, hok, hlen, hg⟩ := wrong_pos hw
    have hpo := pc_Order m l (by omega) hl
    rw [sortR_ok hm hok hg hw] at hps
    rw [hw] at hpw
    cases ho : orderF l m m [] with
    | none =>
      rw [ho] at hps hpo
      simp only [Option.getD_none, Option.isSome_none] at hpo
      repeat' (first | refine awp_assoc ?_ | ((first | refine awp_seq_reg fun K hK => ?_ | refine awp_seq_draw (by decide +kernel) fun K hK => ?_ | refine awp_reg' fun K hK => ?_ | refine awp_draw' (by decide +kernel) fun K hK => ?_); (simp (disch := omega) only [go_sem, Nat.reduceBEq, encPs])) | ((first | refine awp_seq_cond _ rfl (fun hc => ?_) (fun hc => ?_) | refine awp_cond _ rfl (fun hc => ?_) (fun hc => ?_)) <;> (first | (cases hc; done) | ((try simp only [decide_eq_true_eq, decide_eq_false_iff_not] at hc); (try (exfalso; omega))))) | refine awp_seq_block ?_ | refine awp_block ?_ | refine awp_seq_skip ?_ | refine awp_seq_ret ?_ | refine awp_seq_exit ?_ | refine awp_skip ?_ | refine awp_exit ?_ | refine awp_ret ?_ | refine seqK_n ?_ | refine seqK_e ?_ | refine seqK_r ?_ | refine blkK_n ?_ | refine blkK_e ?_ | refine blkK_o rfl ?_ | refine blkK_r ?_ | refine loopK_e ?_ | refine loopK_r ?_ | (first | refine retQ_K (by (simp (disch := omega) only [go_sem]); rfl) ?_ | refine retQ_K' (by (simp (disch := omega) only [go_sem]); rfl) ?_) | (refine hK _ ?_; clear hK K) | ((first | refine callW_pc (pc_awake) ?_ | refine callD_pc (pc_awake) ?_); (simp (disch := omega) only [go_sem, Nat.reduceBEq])) | ((first | refine callW_pc (hps) ?_ | refine callD_pc (hps) ?_); (simp (disch := omega) only [go_sem, Nat.reduceBEq, encN])) | ((first | refine callW_pc (hpw) ?_ | refine callD_pc (hpw) ?_); (simp (disch := omega) only [go_sem, Nat.reduceBEq])) | ((first | refine callW_pc (hpo) ?_ | refine callD_pc (hpo) ?_); (simp (disch := omega) only [go_sem, Nat.reduceBEq, encN])) | (refine stepG_split (fun hb => ?_) (fun hb => ?_) <;> (have hb2 := hb; try simp only [decide_eq_true_eq, decide_eq_false_iff_not, Classical.not_not, beq_iff_eq, beq_eq_false_iff_ne, bne_iff_ne, ne_eq, Bool.not_eq_true', Bool.not_eq_false', Bool.and_eq_true, Bool.or_eq_true, Bool.and_eq_false_imp, Bool.or_eq_false_iff, Bool.not_eq_true, Bool.not_eq_false] at hb2) <;> ((first | have hb3 : (_ : Bool) = _ := hb2 | have hb3 := eq_false hb2 | have hb3 := eq_true hb2); (simp (disch := omega) only [go_sem, Nat.reduceBEq, Nat.reduceBeqDiff, Nat.reduceEqDiff, reduceIte, reduceCtorEq, Nat.reduceAdd, Nat.reduceMul, Nat.reduceLeDiff, Nat.reduceLT, Int.reduceLT, Int.reduceLE, Int.reduceEq, hb, hb3, encPs, encN]); clear hb hb3; (try (exfalso; omega)))) | (exfalso; omega))
      all_goals first | exact fin_bool rfl | skip
    | some r =>
      rw [ho] at hps hpo
      simp only [Option.getD_some, Option.isSome_some] at hpo
      have hr := (orderF_some hok m [] r (beg_nil m l) ho).2
      have hpi := pc_Ints r r (by simp at hr; unfold maxLen; omega) (by simp at hr; unfold maxLen; omega)
      simp only [decide_true] at hpi
      repeat' (first | refine awp_assoc ?_ | ((first | refine awp_seq_reg fun K hK => ?_ | refine awp_seq_draw (by decide +kernel) fun K hK => ?_ | refine awp_reg' fun K hK => ?_ | refine awp_draw' (by decide +kernel) fun K hK => ?_); (simp (disch := omega) only [go_sem, Nat.reduceBEq, encPs])) | ((first | refine awp_seq_cond _ rfl (fun hc => ?_) (fun hc => ?_) | refine awp_cond _ rfl (fun hc => ?_) (fun hc => ?_)) <;> (first | (cases hc; done) | ((try simp only [decide_eq_true_eq, decide_eq_false_iff_not] at hc); (try (exfalso; omega))))) | refine awp_seq_block ?_ | refine awp_block ?_ | refine awp_seq_skip ?_ | refine awp_seq_ret ?_ | refine awp_seq_exit ?_ | refine awp_skip ?_ | refine awp_exit ?_ | refine awp_ret ?_ | refine seqK_n ?_ | refine seqK_e ?_ | refine seqK_r ?_ | refine blkK_n ?_ | refine blkK_e ?_ | refine blkK_o rfl ?_ | refine blkK_r ?_ | refine loopK_e ?_ | refine loopK_r ?_ | (first | refine retQ_K (by (simp (disch := omega) only [go_sem]); rfl) ?_ | refine retQ_K' (by (simp (disch := omega) only [go_sem]); rfl) ?_) | (refine hK _ ?_; clear hK K) | ((first | refine callW_pc (pc_awake) ?_ | refine callD_pc (pc_awake) ?_); (simp (disch := omega) only [go_sem, Nat.reduceBEq])) | ((first | refine callW_pc (hps) ?_ | refine callD_pc (hps) ?_); (simp (disch := omega) only [go_sem, Nat.reduceBEq])) | ((first | refine callW_pc (hpw) ?_ | refine callD_pc (hpw) ?_); (simp (disch := omega) only [go_sem, Nat.reduceBEq])) | ((first | refine callW_pc (hpo) ?_ | refine callD_pc (hpo) ?_); (simp (disch := omega) only [go_sem, Nat.reduceBEq])) | ((first | refine callW_pc (hpi) ?_ | refine callD_pc (hpi) ?_); (simp (disch := omega) only [go_sem, Nat.reduceBEq])) | (refine stepG_split (fun hb => ?_) (fun hb => ?_) <;> (have hb2 := hb; try simp only [decide_eq_true_eq, decide_eq_false_iff_not, Classical.not_not, beq_iff_eq, beq_eq_false_iff_ne, bne_iff_ne, ne_eq, Bool.not_eq_true', Bool.not_eq_false', Bool.and_eq_true, Bool.or_eq_true, Bool.and_eq_false_imp, Bool.or_eq_false_iff, Bool.not_eq_true, Bool.not_eq_false] at hb2) <;> ((first | have hb3 : (_ : Bool) = _ := hb2 | have hb3 := eq_false hb2 | have hb3 := eq_true hb2); (simp (disch := omega) only [go_sem, Nat.reduceBEq, Nat.reduceBeqDiff, Nat.reduceEqDiff, reduceIte, reduceCtorEq, Nat.reduceAdd, Nat.reduceMul, Nat.reduceLeDiff, Nat.reduceLT, Int.reduceLT, Int.reduceLE, Int.reduceEq, hb, hb3, encPs]); clear hb hb3; (try (exfalso; omega)))) | (exfalso; omega))
      all_goals first | exact fin_bool rfl | skip
  · have hR : sortR n l = (wrong n l, []) := by unfold sortR; rw [if_pos hw]
    rw [hR] at hps
    repeat' (first | refine awp_assoc ?_ | ((first | refine awp_seq_reg fun K hK => ?_ | refine awp_seq_draw (by decide +kernel) fun K hK => ?_ | refine awp_reg' fun K hK => ?_ | refine awp_draw' (by decide +kernel) fun K hK => ?_); (simp (disch := omega) only [go_sem, Nat.reduceBEq, encPs])) | ((first | refine awp_seq_cond _ rfl (fun hc => ?_) (fun hc => ?_) | refine awp_cond _ rfl (fun hc => ?_) (fun hc => ?_)) <;> (first | (cases hc; done) | ((try simp only [decide_eq_true_eq, decide_eq_false_iff_not, Classical.not_not] at hc); (try (exfalso; omega))))) | refine awp_seq_block ?_ | refine awp_block ?_ | refine awp_seq_skip ?_ | refine awp_seq_ret ?_ | refine awp_seq_exit ?_ | refine awp_skip ?_ | refine awp_exit ?_ | refine awp_ret ?_ | refine seqK_n ?_ | refine seqK_e ?_ | refine seqK_r ?_ | refine blkK_n ?_ | refine blkK_e ?_ | refine blkK_o rfl ?_ | refine blkK_r ?_ | refine loopK_e ?_ | refine loopK_r ?_ | (first | refine retQ_K (by (simp (disch := omega) only [go_sem]); rfl) ?_ | refine retQ_K' (by (simp (disch := omega) only [go_sem]); rfl) ?_) | (refine hK _ ?_; clear hK K) | ((first | refine callW_pc (pc_awake) ?_ | refine callD_pc (pc_awake) ?_); (simp (disch := omega) only [go_sem, Nat.reduceBEq])) | ((first | refine callW_pc (hps) ?_ | refine callD_pc (hps) ?_); (simp (disch := omega) only [go_sem, Nat.reduceBEq, encN])) | ((first | refine callW_pc (hpw) ?_ | refine callD_pc (hpw) ?_); (simp (disch := omega) only [go_sem, Nat.reduceBEq])) | (refine stepG_split (fun hb => ?_) (fun hb => ?_) <;> (have hb2 := hb; try simp only [decide_eq_true_eq, decide_eq_false_iff_not, Classical.not_not, beq_iff_eq, beq_eq_false_iff_ne, bne_iff_ne, ne_eq, Bool.not_eq_true', Bool.not_eq_false', Bool.and_eq_true, Bool.or_eq_true, Bool.and_eq_false_imp, Bool.or_eq_false_iff, Bool.not_eq_true, Bool.not_eq_false] at hb2) <;> ((first | have hb3 : (_ : Bool) = _ := hb2 | have hb3 := eq_false hb2 | have hb3 := eq_true hb2); (simp (disch := omega) only [go_sem, Nat.reduceBEq, Nat.reduceBeqDiff, Nat.reduceEqDiff, reduceIte, reduceCtorEq, Nat.reduceAdd, Nat.reduceMul, Nat.reduceLeDiff, Nat.reduceLT, Int.reduceLT, Int.reduceLE, Int.reduceEq, hb, hb3, encPs, encN]); clear hb hb3; (try (exfalso; omega)))) | (exfalso; omega))
    all_goals first | exact fin_bool rfl | skip
end Go.Proofs.Ytjibdljdkgedcaa
