/-
  The walk of ahead. No condition but bounds.
-/
import Derived.Test.YtjibdljdkgedcaaMade
namespace Go.Proofs.Ytjibdljdkgedcaa
open Abs Facts Topo
attribute [local irreducible] awp
namespace Topo
/-- The direct predecessors of b among the first a nodes. -/
def aheadN (g : List Nat) (b : Nat) : Nat → Nat
  | 0 => 0
  | a + 1 => if (g.getD a 0).testBit b = true then orU (aheadN g b a) (2 ^ a) else aheadN g b a
end Topo
theorem fin_u64 {P : Program} {H : HM} {nx : Nat} {b c : Nat} (h : b = c) : Abs.Fin P 1 (.int .u64 (c : Nat)) (.int .u64 (b : Nat)) H nx := by subst h; exact fin_pure rfl (Le.refl _)
set_option maxRecDepth 100000 in
set_option maxHeartbeats 8000000 in
theorem pc_ahead (n : Nat) (hn : n ≤ 16) (g : List Nat) (hg : g.length = 16) (b : Nat) (hb : b < 64) : PC Try.prog 26 [.agg (cellsG n g), .int .i64 b] (.int .u64 (aheadN g b n : Nat)) := by
  refine PC_intro 1 (by simp only [pureD.pureL, pureD, pure_cellsG, Bool.and_self]) rfl (AC_intro [] Try.func26 rfl (by decide +kernel) mixed (by decide +kernel) (by simp [Try.ntmps26]) ?_)
  show awp _ _ (Code.seq _ _) _ _
  repeat' (first | refine awp_assoc ?_ | ((first | refine awp_seq_reg fun K hK => ?_ | refine awp_seq_draw (by decide +kernel) fun K hK => ?_ | refine awp_reg' fun K hK => ?_ | refine awp_draw' (by decide +kernel) fun K hK => ?_); (simp (disch := omega) only [go_sem, Nat.reduceBEq, reduceCtorEq, Nat.reduceAdd, Nat.reduceLeDiff, Nat.reduceLT])) | ((first | refine awp_seq_cond _ rfl (fun hc => ?_) (fun hc => ?_) | refine awp_cond _ rfl (fun hc => ?_) (fun hc => ?_)) <;> (first | (cases hc; done) | ((try simp only [decide_eq_true_eq, decide_eq_false_iff_not, Classical.not_not, beq_iff_eq, beq_eq_false_iff_ne, bne_iff_ne, ne_eq, Bool.not_eq_true', Bool.not_eq_false', Bool.and_eq_true, Bool.or_eq_true, Bool.and_eq_false_imp, Bool.or_eq_false_iff, Bool.not_eq_true, Bool.not_eq_false] at hc); (try (exfalso; omega))))) | refine awp_seq_block ?_ | refine awp_block ?_ | refine awp_seq_skip ?_ | refine awp_seq_ret ?_ | refine awp_seq_exit ?_ | refine awp_skip ?_ | refine awp_exit ?_ | refine awp_ret ?_ | refine seqK_n ?_ | refine seqK_e ?_ | refine seqK_r ?_ | refine blkK_n ?_ | refine blkK_e ?_ | refine blkK_o rfl ?_ | refine blkK_r ?_ | refine loopK_e ?_ | refine loopK_r ?_ | (first | refine retQ_K (by (simp (disch := omega) only [go_sem]); rfl) ?_ | refine retQ_K' (by (simp (disch := omega) only [go_sem]); rfl) ?_) | (refine hK _ ?_; clear hK K) | (refine stepG_split (fun hb => ?_) (fun hb => ?_) <;> (have hb2 := hb; try simp only [decide_eq_true_eq, decide_eq_false_iff_not, Classical.not_not, beq_iff_eq, beq_eq_false_iff_ne, bne_iff_ne, ne_eq, Bool.not_eq_true', Bool.not_eq_false', Bool.and_eq_true, Bool.or_eq_true, Bool.and_eq_false_imp, Bool.or_eq_false_iff, Bool.not_eq_true, Bool.not_eq_false] at hb2) <;> ((first | have hb3 : (_ : Bool) = _ := hb2 | have hb3 := eq_false hb2 | have hb3 := eq_true hb2); (simp (disch := omega) only [go_sem, Nat.reduceBEq, Nat.reduceBeqDiff, Nat.reduceEqDiff, reduceIte, reduceCtorEq, Nat.reduceAdd, Nat.reduceMul, Nat.reduceLeDiff, Nat.reduceLT, Int.reduceLT, Int.reduceLE, Int.reduceEq, hb, hb3, cellsG_take, cellsG_splice, cellsG_getS]); clear hb hb3; (try (exfalso; omega)))) | (exfalso; omega))
  (refine awp_loop' (fun mz st => ∃ (a : _), mz = n - a ∧ st.t 1 = .int .i64 b ∧ st.t 2 = .ptr 0 0 ∧ st.t 5 = .int .u64 (aheadN g b a : Nat) ∧ st.t 8 = .int .i64 n ∧ st.t 9 = .int .i64 a ∧ st.H 0 = some (.box 51 (cellsG n g)) ∧ (a ≤ n)) ?_ ?_); rotate_left; (rintro mz st ⟨a, rfl, s1, s2, s5, s8, s9, sH0, sp0⟩); rotate_left
  · (refine ⟨_, 0, rfl, ?_⟩); (simp (disch := omega) only [go_sem, Nat.reduceBEq, true_and, and_true, and_self, Int.natCast_zero])
    rfl
  repeat' (first | refine awp_assoc ?_ | ((first | refine awp_seq_reg fun K hK => ?_ | refine awp_seq_draw (by decide +kernel) fun K hK => ?_ | refine awp_reg' fun K hK => ?_ | refine awp_draw' (by decide +kernel) fun K hK => ?_); (simp (disch := omega) only [go_sem, Nat.reduceBEq, reduceCtorEq, Nat.reduceAdd, Nat.reduceLeDiff, s1, s2, s5, s8, s9, sH0, cellsG_getS, shlU, bits_or, shrU, bits_and1, bit_one])) | ((first | refine awp_seq_cond _ rfl (fun hc => ?_) (fun hc => ?_) | refine awp_cond _ rfl (fun hc => ?_) (fun hc => ?_)) <;> (first | (cases hc; done) | ((try simp only [decide_eq_true_eq, decide_eq_false_iff_not] at hc); (try (exfalso; omega))))) | refine awp_seq_block ?_ | refine awp_block ?_ | refine awp_seq_skip ?_ | refine awp_seq_ret ?_ | refine awp_seq_exit ?_ | refine awp_skip ?_ | refine awp_exit ?_ | refine awp_ret ?_ | refine seqK_n ?_ | refine seqK_e ?_ | refine seqK_r ?_ | refine blkK_n ?_ | refine blkK_e ?_ | refine blkK_o rfl ?_ | refine blkK_r ?_ | refine loopK_e ?_ | refine loopK_r ?_ | (first | refine retQ_K (by (simp (disch := omega) only [go_sem]); rfl) ?_ | refine retQ_K' (by (simp (disch := omega) only [go_sem]); rfl) ?_) | (refine hK _ ?_; clear hK K) | (refine stepG_split (fun hb => ?_) (fun hb => ?_) <;> (have hb2 := hb; try simp only [decide_eq_true_eq, decide_eq_false_iff_not, Classical.not_not, beq_iff_eq, beq_eq_false_iff_ne, bne_iff_ne, ne_eq, Bool.not_eq_true', Bool.not_eq_false', Bool.and_eq_true, Bool.or_eq_true, Bool.and_eq_false_imp, Bool.or_eq_false_iff, Bool.not_eq_true, Bool.not_eq_false] at hb2) <;> ((first | have hb3 : (_ : Bool) = _ := hb2 | have hb3 := eq_false hb2 | have hb3 := eq_true hb2); (simp (disch := omega) only [go_sem, Nat.reduceBEq, Nat.reduceBeqDiff, Nat.reduceEqDiff, reduceIte, reduceCtorEq, Nat.reduceAdd, Nat.reduceMul, Nat.reduceLeDiff, Nat.reduceLT, Int.reduceLT, Int.reduceLE, Int.reduceEq, hb, hb3, s1, s2, s5, s8, s9, sH0, cellsG_take, cellsG_splice, cellsG_getS, shlU, bits_or, shrU, bits_and1, bit_one]); clear hb hb3; (try (exfalso; omega)))) | (exfalso; omega))
  · have h1 : aheadN g b (a + 1) = orU (aheadN g b a) (2 ^ a) := by simp only [aheadN]; rw [if_pos (by assumption)]
    (refine Exists.intro _ (And.intro ?_ ⟨a + 1, rfl, ?_⟩)); rotate_left; (simp (disch := omega) only [go_sem, Nat.reduceBEq, s1, s2, s5, s8, s9, sH0, true_and, Int.natCast_add, Int.natCast_one, h1]); rotate_left
    · omega
    · omega
  · have h1 : aheadN g b (a + 1) = aheadN g b a := by simp only [aheadN]; rw [if_neg (by simp; assumption)]
    (refine Exists.intro _ (And.intro ?_ ⟨a + 1, rfl, ?_⟩)); rotate_left; (simp (disch := omega) only [go_sem, Nat.reduceBEq, s1, s2, s5, s8, s9, sH0, true_and, Int.natCast_add, Int.natCast_one, h1]); rotate_left
    · omega
    · omega
  · have h1 : a = n := by omega
    subst h1
    exact fin_u64 rfl
end Go.Proofs.Ytjibdljdkgedcaa
