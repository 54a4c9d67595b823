/-
  The walk of the reference's Count. No condition but bounds.
-/
import Derived.Test.YtjibdljdkgedcaaRefOrder
import Derived.Test.YtjibdljdkgedcaaCountLaw
namespace Go.Proofs.Ytjibdljdkgedcaa
open Abs Facts Topo
attribute [local irreducible] awp
theorem wrapS {n : Int} (h : -9223372036854775808 ≤ n ∧ n < 9223372036854775808) : IntKind.i64.wrap n = n := by rw [IntKind.wrap_i64]; omega
set_option maxRecDepth 100000 in
set_option maxHeartbeats 8000000 in
theorem pc_CountR (n : Nat) (hn : n ≤ 16) (l : List Pr) (hl : l.length ≤ maxLen) (hok : okL n l) : ∀ (k : Nat) (row : List Nat), row.Nodup → (∀ x ∈ row, x < n) → row.length + k = n →
    PC Try.prog 18 [.int .i64 n, encN row, encPs l] (.int .i64 (compl l n k row : Nat)) := by
  intro k
  induction k with
  | zero =>
    intro row hd hr hk
    have hlen : row.length = n := by omega
    refine PC_intro 1 (by simp only [pureD.pureL, pure_encPs, pure_encN, pureD, Bool.and_self]) rfl (AC_intro [24, 2000029] Try.func18 rfl (by decide +kernel) mixed (by decide +kernel) (by simp [Try.ntmps18]) ?_)
    show awp _ _ (Code.seq _ _) _ _
    repeat' (first | refine awp_assoc ?_ | ((first | refine awp_seq_reg fun K hK => ?_ | refine awp_seq_draw (by decide +kernel) fun K hK => ?_ | refine awp_reg' fun K hK => ?_ | refine awp_draw' (by decide +kernel) fun K hK => ?_); (simp (disch := omega) only [go_sem, Nat.reduceBEq, encN, encPs])) | ((first | refine awp_seq_cond _ rfl (fun hc => ?_) (fun hc => ?_) | refine awp_cond _ rfl (fun hc => ?_) (fun hc => ?_)) <;> (first | (cases hc; done) | ((try simp only [decide_eq_true_eq, decide_eq_false_iff_not] at hc); (try (exfalso; omega))))) | refine awp_seq_block ?_ | refine awp_block ?_ | refine awp_seq_skip ?_ | refine awp_seq_ret ?_ | refine awp_seq_exit ?_ | refine awp_skip ?_ | refine awp_exit ?_ | refine awp_ret ?_ | refine seqK_n ?_ | refine seqK_e ?_ | refine seqK_r ?_ | refine blkK_n ?_ | refine blkK_e ?_ | refine blkK_o rfl ?_ | refine blkK_r ?_ | refine loopK_e ?_ | refine loopK_r ?_ | (first | refine retQ_K (by (simp (disch := omega) only [go_sem]); rfl) ?_ | refine retQ_K' (by (simp (disch := omega) only [go_sem]); rfl) ?_) | (refine hK _ ?_; clear hK K) | (refine stepG_split (fun hb => ?_) (fun hb => ?_) <;> (have hb2 := hb; try simp only [decide_eq_true_eq, decide_eq_false_iff_not, Classical.not_not, beq_iff_eq, beq_eq_false_iff_ne, bne_iff_ne, ne_eq, Bool.not_eq_true', Bool.not_eq_false', Bool.and_eq_true, Bool.or_eq_true, Bool.and_eq_false_imp, Bool.or_eq_false_iff, Bool.not_eq_true, Bool.not_eq_false] at hb2) <;> ((first | have hb3 : (_ : Bool) = _ := hb2 | have hb3 := eq_false hb2 | have hb3 := eq_true hb2); (simp (disch := omega) only [go_sem, Nat.reduceBEq, Nat.reduceBeqDiff, Nat.reduceEqDiff, reduceIte, reduceCtorEq, Nat.reduceAdd, Nat.reduceMul, Nat.reduceLeDiff, Nat.reduceLT, Int.reduceLT, Int.reduceLE, Int.reduceEq, hb, hb3, encN, encPs]); clear hb hb3; (try (exfalso; omega)))) | (exfalso; omega))
    exact fin_int rfl
  | succ k ih =>
    intro row hd hr hk
    have hb := compl_le hok (k + 1) row hd hr hk
    have hf := fact_16 (show k + 1 ≤ 16 by omega)
    refine PC_intro 1 (by simp only [pureD.pureL, pure_encPs, pure_encN, pureD, Bool.and_self]) rfl (AC_intro [24, 2000029] Try.func18 rfl (by decide +kernel) mixed (by decide +kernel) (by simp [Try.ntmps18]) ?_)
    show awp _ _ (Code.seq _ _) _ _
    repeat' (first | refine awp_assoc ?_ | ((first | refine awp_seq_reg fun K hK => ?_ | refine awp_seq_draw (by decide +kernel) fun K hK => ?_ | refine awp_reg' fun K hK => ?_ | refine awp_draw' (by decide +kernel) fun K hK => ?_); (simp (disch := omega) only [go_sem, Nat.reduceBEq, encN, encPs])) | ((first | refine awp_seq_cond _ rfl (fun hc => ?_) (fun hc => ?_) | refine awp_cond _ rfl (fun hc => ?_) (fun hc => ?_)) <;> (first | (cases hc; done) | ((try simp only [decide_eq_true_eq, decide_eq_false_iff_not] at hc); (try (exfalso; omega))))) | refine awp_seq_block ?_ | refine awp_block ?_ | refine awp_seq_skip ?_ | refine awp_seq_ret ?_ | refine awp_seq_exit ?_ | refine awp_skip ?_ | refine awp_exit ?_ | refine awp_ret ?_ | refine seqK_n ?_ | refine seqK_e ?_ | refine seqK_r ?_ | refine blkK_n ?_ | refine blkK_e ?_ | refine blkK_o rfl ?_ | refine blkK_r ?_ | refine loopK_e ?_ | refine loopK_r ?_ | (first | refine retQ_K (by (simp (disch := omega) only [go_sem]); rfl) ?_ | refine retQ_K' (by (simp (disch := omega) only [go_sem]); rfl) ?_) | (refine hK _ ?_; clear hK K) | (refine stepG_split (fun hb => ?_) (fun hb => ?_) <;> (have hb2 := hb; try simp only [decide_eq_true_eq, decide_eq_false_iff_not, Classical.not_not, beq_iff_eq, beq_eq_false_iff_ne, bne_iff_ne, ne_eq, Bool.not_eq_true', Bool.not_eq_false', Bool.and_eq_true, Bool.or_eq_true, Bool.and_eq_false_imp, Bool.or_eq_false_iff, Bool.not_eq_true, Bool.not_eq_false] at hb2) <;> ((first | have hb3 : (_ : Bool) = _ := hb2 | have hb3 := eq_false hb2 | have hb3 := eq_true hb2); (simp (disch := omega) only [go_sem, Nat.reduceBEq, Nat.reduceBeqDiff, Nat.reduceEqDiff, reduceIte, reduceCtorEq, Nat.reduceAdd, Nat.reduceMul, Nat.reduceLeDiff, Nat.reduceLT, Int.reduceLT, Int.reduceLE, Int.reduceEq, hb, hb3, encN, encPs]); clear hb hb3; (try (exfalso; omega)))) | (exfalso; omega))
    (refine awp_loop' (fun mz st => ∃ (q : _), mz = n - q ∧ st.t 0 = .int .i64 n ∧ st.t 1 = encN row ∧ st.t 2 = encPs l ∧ st.t 7 = .int .i64 (sumN q fun p => if freeR row p l = true then compl l n k (row ++ [p]) else 0 : Nat) ∧ st.t 8 = .int .i64 q ∧ (q ≤ n)) ?_ ?_); rotate_left; (rintro mz st ⟨q, rfl, s0, s1, s2, s7, s8, sp0⟩); rotate_left
    · (refine ⟨_, 0, rfl, ?_⟩); (simp (disch := omega) only [go_sem, Nat.reduceBEq, true_and, and_true, and_self, Int.natCast_zero, encN, encPs])
      try rfl
    have hmono := sumN_mono (fun p => if freeR row p l = true then compl l n k (row ++ [p]) else 0) (show q ≤ n from sp0)
    have hb2 : sumN n (fun p => if freeR row p l = true then compl l n k (row ++ [p]) else 0) ≤ 20922789888000 := Nat.le_trans hb hf
    have hih : freeR row q l = true → q < n → PC Try.prog 18 [.int .i64 n, encN (row ++ [q]), encPs l] (.int .i64 (compl l n k (row ++ [q]) : Nat)) := fun hf hq => by
      obtain ⟨h2, h3⟩ := beg_step hd hr hq (free_not hok hf)
      exact ih _ h2 h3 (by simp; omega)
    simp only [encN, encPs, List.map_append, List.map_cons, List.map_nil] at hih
    repeat' (first | refine awp_assoc ?_ | ((first | refine awp_seq_reg fun K hK => ?_ | refine awp_seq_draw (by decide +kernel) fun K hK => ?_ | refine awp_reg' fun K hK => ?_ | refine awp_draw' (by decide +kernel) fun K hK => ?_); (simp (disch := omega) only [go_sem, Nat.reduceBEq, reduceCtorEq, Nat.reduceAdd, Nat.reduceMul, Nat.reduceLeDiff, Nat.reduceLT, s0, s1, s2, s7, s8, encN, encPs])) | ((first | refine awp_seq_cond _ rfl (fun hc => ?_) (fun hc => ?_) | refine awp_cond _ rfl (fun hc => ?_) (fun hc => ?_)) <;> (first | (cases hc; done) | ((try simp only [decide_eq_true_eq, decide_eq_false_iff_not] at hc); (try (exfalso; omega))))) | refine awp_seq_block ?_ | refine awp_block ?_ | refine awp_seq_skip ?_ | refine awp_seq_ret ?_ | refine awp_seq_exit ?_ | refine awp_skip ?_ | refine awp_exit ?_ | refine awp_ret ?_ | refine seqK_n ?_ | refine seqK_e ?_ | refine seqK_r ?_ | refine blkK_n ?_ | refine blkK_e ?_ | refine blkK_o rfl ?_ | refine blkK_r ?_ | refine loopK_e ?_ | refine loopK_r ?_ | (first | refine retQ_K (by (simp (disch := omega) only [go_sem]); rfl) ?_ | refine retQ_K' (by (simp (disch := omega) only [go_sem]); rfl) ?_) | (refine hK _ ?_; clear hK K) | ((first | refine callW_pc (pc_freeR row q l (by unfold maxLen; omega) hl) ?_ | refine callD_pc (pc_freeR row q l (by unfold maxLen; omega) hl) ?_); (simp (disch := omega) only [go_sem])) | ((first | refine callW_pc (hih (by assumption) (by omega)) ?_ | refine callD_pc (hih (by assumption) (by omega)) ?_); (simp (disch := omega) only [go_sem, Nat.reduceBEq])) | (refine stepG_split (fun hb => ?_) (fun hb => ?_) <;> (have hb2 := hb; try simp only [decide_eq_true_eq, decide_eq_false_iff_not, Classical.not_not, beq_iff_eq, beq_eq_false_iff_ne, bne_iff_ne, ne_eq, Bool.not_eq_true', Bool.not_eq_false', Bool.and_eq_true, Bool.or_eq_true, Bool.and_eq_false_imp, Bool.or_eq_false_iff, Bool.not_eq_true, Bool.not_eq_false] at hb2) <;> ((first | have hb3 : (_ : Bool) = _ := hb2 | have hb3 := eq_false hb2 | have hb3 := eq_true hb2); (simp (disch := omega) only [go_sem, Nat.reduceBEq, Nat.reduceBeqDiff, Nat.reduceEqDiff, reduceIte, reduceCtorEq, Nat.reduceAdd, Nat.reduceMul, Nat.reduceLeDiff, Nat.reduceLT, Int.reduceLT, Int.reduceLE, Int.reduceEq, hb, hb3, s0, s1, s2, s7, s8, encN, encPs]); clear hb hb3; (try (exfalso; omega)))) | (exfalso; omega))
    · have h1 : sumN (q + 1) (fun p => if freeR row p l = true then compl l n k (row ++ [p]) else 0) = sumN q (fun p => if freeR row p l = true then compl l n k (row ++ [p]) else 0) + compl l n k (row ++ [q]) := by
        simp only [sumN]; rw [if_pos (by assumption)]
      have hmono2 := sumN_mono (fun p => if freeR row p l = true then compl l n k (row ++ [p]) else 0) (show q + 1 ≤ n by omega)
      rw [h1] at hmono2
      (refine Exists.intro _ (And.intro ?_ ⟨q + 1, rfl, ?_⟩)); rotate_left; (simp (disch := omega) only [go_sem, Nat.reduceBEq, s0, s1, s2, s7, s8, true_and, Int.natCast_add, Int.natCast_one]); rotate_left
      · omega
      · rw [h1]
        exact ⟨by push_cast; rfl, by omega⟩
    · have h1 : sumN (q + 1) (fun p => if freeR row p l = true then compl l n k (row ++ [p]) else 0) = sumN q (fun p => if freeR row p l = true then compl l n k (row ++ [p]) else 0) := by
        simp only [sumN]; rw [if_neg (by simp; assumption)]; rfl
      (refine Exists.intro _ (And.intro ?_ ⟨q + 1, rfl, ?_⟩)); rotate_left; (simp (disch := omega) only [go_sem, Nat.reduceBEq, s0, s1, s2, s7, s8, true_and, Int.natCast_add, Int.natCast_one, h1]); rotate_left
      · omega
      · omega
    · have hq : q = n := by omega
      subst hq
      exact fin_int rfl
end Go.Proofs.Ytjibdljdkgedcaa
