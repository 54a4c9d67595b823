/-
  The walks of the reference's pair and Pairs. No condition but lengths.
-/
import Derived.Test.YtjibdljdkgedcaaRefAt
import Derived.Test.YtjibdljdkgedcaaReachLaw
namespace Go.Proofs.Ytjibdljdkgedcaa
open Abs Facts Topo
attribute [local irreducible] awp
set_option maxRecDepth 100000 in
set_option maxHeartbeats 8000000 in
theorem pc_pair (l : List Pr) (a b : Int) (hl : l.length ≤ maxLen) : PC Try.prog 34 [encPs l, .int .i64 a, .int .i64 b] (.bool (pairB l a b)) := by
  unfold maxLen at hl
  refine PC_intro 1 (by simp only [pureD.pureL, pure_encPs, pureD, Bool.and_self]) rfl (AC_intro [] Try.func34 rfl (by decide +kernel) mixed (by decide +kernel) (by simp [Try.ntmps34]) ?_)
  show awp _ _ (Code.seq _ _) _ _
  repeat' (first | refine awp_assoc ?_ | ((first | refine awp_seq_reg fun K hK => ?_ | refine awp_seq_draw (by decide +kernel) fun K hK => ?_ | refine awp_reg' fun K hK => ?_ | refine awp_draw' (by decide +kernel) fun K hK => ?_); (simp (disch := omega) only [go_sem, encPs])) | ((first | refine awp_seq_cond _ rfl (fun hc => ?_) (fun hc => ?_) | refine awp_cond _ rfl (fun hc => ?_) (fun hc => ?_)) <;> (first | (cases hc; done) | ((try simp only [decide_eq_true_eq, decide_eq_false_iff_not, Classical.not_not, beq_iff_eq, beq_eq_false_iff_ne, bne_iff_ne, ne_eq, Bool.not_eq_true', Bool.not_eq_false', Bool.and_eq_true, Bool.or_eq_true, Bool.and_eq_false_imp, Bool.or_eq_false_iff, Bool.not_eq_true, Bool.not_eq_false] at hc); (try (exfalso; omega))))) | refine awp_seq_block ?_ | refine awp_block ?_ | refine awp_seq_skip ?_ | refine awp_seq_ret ?_ | refine awp_seq_exit ?_ | refine awp_skip ?_ | refine awp_exit ?_ | refine awp_ret ?_ | refine seqK_n ?_ | refine seqK_e ?_ | refine seqK_r ?_ | refine blkK_n ?_ | refine blkK_e ?_ | refine blkK_o rfl ?_ | refine blkK_r ?_ | refine loopK_e ?_ | refine loopK_r ?_ | (first | refine retQ_K (by (simp (disch := omega) only [go_sem]); rfl) ?_ | refine retQ_K' (by (simp (disch := omega) only [go_sem]); rfl) ?_) | (refine hK _ ?_; clear hK K) | (refine stepG_split (fun hb => ?_) (fun hb => ?_) <;> (have hb2 := hb; try simp only [decide_eq_true_eq, decide_eq_false_iff_not, Classical.not_not, beq_iff_eq, beq_eq_false_iff_ne, bne_iff_ne, ne_eq, Bool.not_eq_true', Bool.not_eq_false', Bool.and_eq_true, Bool.or_eq_true, Bool.and_eq_false_imp, Bool.or_eq_false_iff, Bool.not_eq_true, Bool.not_eq_false] at hb2) <;> ((first | have hb3 : (_ : Bool) = _ := hb2 | have hb3 := eq_false hb2 | have hb3 := eq_true hb2); (simp (disch := omega) only [go_sem, Nat.reduceBEq, Nat.reduceBeqDiff, Nat.reduceEqDiff, reduceIte, reduceCtorEq, Nat.reduceAdd, Nat.reduceMul, Nat.reduceLeDiff, Nat.reduceLT, Int.reduceLT, Int.reduceLE, Int.reduceEq, hb, hb3, encPs, encP]); clear hb hb3; (try (exfalso; omega)))) | (exfalso; omega))
  (refine awp_loop' (fun mz st => ∃ (i : _), mz = l.length - i ∧ st.t 0 = encPs l ∧ st.t 1 = .int .i64 a ∧ st.t 2 = .int .i64 b ∧ st.t 7 = .int .i64 i ∧ (i ≤ l.length) ∧ ((l.take i).any (fun p => decide (p.1 = a) && decide (p.2 = b)) = false)) ?_ ?_); rotate_left; (rintro mz st ⟨i, rfl, s0, s1, s2, s7, sp0, sp1⟩); rotate_left
  · (refine ⟨_, 0, rfl, ?_⟩); (simp (disch := omega) only [go_sem, Nat.reduceBEq, and_self, Int.natCast_zero, encPs])
    try rfl
  repeat' (first | refine awp_assoc ?_ | ((first | refine awp_seq_reg fun K hK => ?_ | refine awp_seq_draw (by decide +kernel) fun K hK => ?_ | refine awp_reg' fun K hK => ?_ | refine awp_draw' (by decide +kernel) fun K hK => ?_); (simp (disch := omega) only [go_sem, Nat.reduceBEq, reduceCtorEq, Nat.reduceAdd, Nat.reduceLeDiff, s0, s1, s7, encPs, encP])) | ((first | refine awp_seq_cond _ rfl (fun hc => ?_) (fun hc => ?_) | refine awp_cond _ rfl (fun hc => ?_) (fun hc => ?_)) <;> (first | (cases hc; done) | ((try simp only [decide_eq_true_eq, decide_eq_false_iff_not] at hc); (try (exfalso; omega))))) | refine awp_seq_block ?_ | refine awp_block ?_ | refine awp_seq_skip ?_ | refine awp_seq_ret ?_ | refine awp_seq_exit ?_ | refine awp_skip ?_ | refine awp_exit ?_ | refine awp_ret ?_ | refine seqK_n ?_ | refine seqK_e ?_ | refine seqK_r ?_ | refine blkK_n ?_ | refine blkK_e ?_ | refine blkK_o rfl ?_ | refine blkK_r ?_ | refine loopK_e ?_ | refine loopK_r ?_ | (first | refine retQ_K (by (simp (disch := omega) only [go_sem]); rfl) ?_ | refine retQ_K' (by (simp (disch := omega) only [go_sem]); rfl) ?_) | (refine hK _ ?_; clear hK K) | (refine stepG_split (fun hb => ?_) (fun hb => ?_) <;> (have hb2 := hb; try simp only [decide_eq_true_eq, decide_eq_false_iff_not] at hb2) <;> ((first | have hb3 : (_ : Bool) = _ := hb2 | have hb3 := eq_false hb2 | have hb3 := eq_true hb2); (simp (disch := omega) only [go_sem, Nat.reduceBEq, reduceCtorEq, Nat.reduceAdd, Nat.reduceLeDiff, hb3, s0, s2, s7, encPs, encP]); clear hb hb3; (try (exfalso; omega)))) | (exfalso; omega))
  · have hi : i < l.length := by omega
    refine fin_bool ?_
    have : pairB l a b = true := by
      unfold pairB
      rw [List.any_eq_true]
      exact ⟨l[i], List.getElem_mem _, by rw [decide_eq_true (by assumption), decide_eq_true (by assumption)]; rfl⟩
    rw [this]
  · have hi : i < l.length := by omega
    (refine Exists.intro _ (And.intro ?_ ⟨i + 1, rfl, ?_⟩)); rotate_left; (simp (disch := omega) only [go_sem, Nat.reduceBEq, s0, s1, s2, s7, true_and, Int.natCast_add, Int.natCast_one]); rotate_left
    · omega
    · refine ⟨by omega, ?_⟩
      rw [List.take_succ_eq_append_getElem hi, List.any_append, sp1, List.any_cons, decide_eq_false (p := l[i].2 = b) (by assumption)]; simp
  · have hi : i < l.length := by omega
    (refine Exists.intro _ (And.intro ?_ ⟨i + 1, rfl, ?_⟩)); rotate_left; (simp (disch := omega) only [go_sem, Nat.reduceBEq, s0, s1, s2, s7, true_and, Int.natCast_add, Int.natCast_one]); rotate_left
    · omega
    · refine ⟨by omega, ?_⟩
      rw [List.take_succ_eq_append_getElem hi, List.any_append, sp1, List.any_cons, decide_eq_false (p := l[i].1 = a) (by assumption)]; simp
  · have hi : l.take i = l := List.take_of_length_le (by omega)
    rw [hi] at sp1
    refine fin_bool ?_
    exact sp1.symm
set_option maxRecDepth 100000 in
set_option maxHeartbeats 8000000 in
theorem pc_Pairs (a b : List Pr) (ha : a.length ≤ maxLen) (hb : b.length ≤ maxLen) : PC Try.prog 20 [encPs a, encPs b] (.bool (decide (a = b))) := by
  unfold maxLen at ha hb
  refine PC_intro 1 (by simp only [pureD.pureL, pure_encPs, Bool.and_self]) rfl (AC_intro [] Try.func20 rfl (by decide +kernel) mixed (by decide +kernel) (by simp [Try.ntmps20]) ?_)
  show awp _ _ (Code.seq _ _) _ _
  repeat' (first | refine awp_assoc ?_ | ((first | refine awp_seq_reg fun K hK => ?_ | refine awp_seq_draw (by decide +kernel) fun K hK => ?_ | refine awp_reg' fun K hK => ?_ | refine awp_draw' (by decide +kernel) fun K hK => ?_); (simp (disch := omega) only [go_sem, Nat.reduceBEq, encPs])) | ((first | refine awp_seq_cond _ rfl (fun hc => ?_) (fun hc => ?_) | refine awp_cond _ rfl (fun hc => ?_) (fun hc => ?_)) <;> (first | (cases hc; done) | ((try simp only [decide_eq_true_eq, decide_eq_false_iff_not, Classical.not_not] at hc); (try (exfalso; omega))))) | refine awp_seq_block ?_ | refine awp_block ?_ | refine awp_seq_skip ?_ | refine awp_seq_ret ?_ | refine awp_seq_exit ?_ | refine awp_skip ?_ | refine awp_exit ?_ | refine awp_ret ?_ | refine seqK_n ?_ | refine seqK_e ?_ | refine seqK_r ?_ | refine blkK_n ?_ | refine blkK_e ?_ | refine blkK_o rfl ?_ | refine blkK_r ?_ | refine loopK_e ?_ | refine loopK_r ?_ | (first | refine retQ_K (by (simp (disch := omega) only [go_sem]); rfl) ?_ | refine retQ_K' (by (simp (disch := omega) only [go_sem]); rfl) ?_) | (refine hK _ ?_; clear hK K) | (refine stepG_split (fun hb => ?_) (fun hb => ?_) <;> (have hb2 := hb; try simp only [decide_eq_true_eq, decide_eq_false_iff_not, Classical.not_not, beq_iff_eq, beq_eq_false_iff_ne, bne_iff_ne, ne_eq, Bool.not_eq_true', Bool.not_eq_false', Bool.and_eq_true, Bool.or_eq_true, Bool.and_eq_false_imp, Bool.or_eq_false_iff, Bool.not_eq_true, Bool.not_eq_false] at hb2) <;> ((first | have hb3 : (_ : Bool) = _ := hb2 | have hb3 := eq_false hb2 | have hb3 := eq_true hb2); (simp (disch := omega) only [go_sem, Nat.reduceBEq, Nat.reduceBeqDiff, Nat.reduceEqDiff, reduceIte, reduceCtorEq, Nat.reduceAdd, Nat.reduceMul, Nat.reduceLeDiff, Nat.reduceLT, Int.reduceLT, Int.reduceLE, Int.reduceEq, hb, hb3, encPs, encP]); clear hb hb3; (try (exfalso; omega)))) | (exfalso; omega))
  · exact fin_bool (by have : ¬ a = b := fun e => by subst e; contradiction
                       simp [this])
  (refine awp_loop' (fun mz st => ∃ (k : _), mz = a.length - k ∧ st.t 0 = encPs a ∧ st.t 1 = encPs b ∧ st.t 5 = .int .i64 k ∧ (k ≤ a.length) ∧ (a.take k = b.take k)) ?_ ?_); rotate_left; (rintro mz st ⟨k, rfl, s0, s1, s5, sp0, sp1⟩); rotate_left
  · (refine ⟨_, 0, rfl, ?_⟩); (simp (disch := omega) only [go_sem, Nat.reduceBEq, and_self, Int.natCast_zero, encPs])
    try simp
  have hlen : a.length = b.length := by omega
  repeat' (first | refine awp_assoc ?_ | ((first | refine awp_seq_reg fun K hK => ?_ | refine awp_seq_draw (by decide +kernel) fun K hK => ?_ | refine awp_reg' fun K hK => ?_ | refine awp_draw' (by decide +kernel) fun K hK => ?_); (simp (disch := omega) only [go_sem, Nat.reduceBEq, reduceCtorEq, Nat.reduceAdd, s0, s1, s5, encPs, encP])) | ((first | refine awp_seq_cond _ rfl (fun hc => ?_) (fun hc => ?_) | refine awp_cond _ rfl (fun hc => ?_) (fun hc => ?_)) <;> (first | (cases hc; done) | ((try simp only [decide_eq_true_eq, decide_eq_false_iff_not, Bool.not_eq_true', Bool.not_eq_false', Bool.and_eq_true, Bool.and_eq_false_imp] at hc); (try (exfalso; omega))))) | refine awp_seq_block ?_ | refine awp_block ?_ | refine awp_seq_skip ?_ | refine awp_seq_ret ?_ | refine awp_seq_exit ?_ | refine awp_skip ?_ | refine awp_exit ?_ | refine awp_ret ?_ | refine seqK_n ?_ | refine seqK_e ?_ | refine seqK_r ?_ | refine blkK_n ?_ | refine blkK_e ?_ | refine blkK_o rfl ?_ | refine blkK_r ?_ | refine loopK_e ?_ | refine loopK_r ?_ | (first | refine retQ_K (by (simp (disch := omega) only [go_sem]); rfl) ?_ | refine retQ_K' (by (simp (disch := omega) only [go_sem]); rfl) ?_) | (refine hK _ ?_; clear hK K) | (refine stepG_split (fun hb => ?_) (fun hb => ?_) <;> (have hb2 := hb; try simp only [decide_eq_true_eq, decide_eq_false_iff_not, Classical.not_not, beq_iff_eq, beq_eq_false_iff_ne, bne_iff_ne, ne_eq, Bool.not_eq_true', Bool.not_eq_false', Bool.and_eq_true, Bool.or_eq_true, Bool.and_eq_false_imp, Bool.or_eq_false_iff, Bool.not_eq_true, Bool.not_eq_false] at hb2) <;> ((first | have hb3 : (_ : Bool) = _ := hb2 | have hb3 := eq_false hb2 | have hb3 := eq_true hb2); (simp (disch := omega) only [go_sem, Nat.reduceBEq, Nat.reduceBeqDiff, Nat.reduceEqDiff, reduceIte, reduceCtorEq, Nat.reduceAdd, Nat.reduceMul, Nat.reduceLeDiff, Nat.reduceLT, Int.reduceLT, Int.reduceLE, Int.reduceEq, hb, hb3, s0, s1, s5, encPs, encP]); clear hb hb3; (try (exfalso; omega)))) | (exfalso; omega))
  · exact fin_bool (by
      have : ¬ a = b := fun e => by subst e; simp_all
      simp [this])
  · (refine Exists.intro _ (And.intro ?_ ⟨k + 1, rfl, ?_⟩)); rotate_left; (simp (disch := omega) only [go_sem, Nat.reduceBEq, s0, s1, s5, true_and, Int.natCast_add, Int.natCast_one]); rotate_left
    · omega
    · have hk : k < a.length := by omega
      refine ⟨by omega, ?_⟩
      rw [List.take_succ_eq_append_getElem hk, List.take_succ_eq_append_getElem (by omega), sp1]
      congr 2
      exact Prod.ext (by simp_all) (by simp_all)
  · have h1 : k = a.length := by omega
    subst h1
    rw [List.take_length, hlen, List.take_length] at sp1
    exact fin_bool (by simp [sp1])
end Go.Proofs.Ytjibdljdkgedcaa
