/-
  The walk of the reference's Must. No condition but bounds.
-/
import Derived.Test.YtjibdljdkgedcaaRefReach
namespace Go.Proofs.Ytjibdljdkgedcaa
open Abs Facts Topo
attribute [local irreducible] awp
namespace Topo
theorem reach_small (n a : Nat) (l : List Pr) : Small n (reachR n a l) := by
  have hB : ∀ (b : Nat) (o : List Nat) (a : Nat), b ≤ n → Small n o → Small n (addB l a b o) := by
    intro b
    induction b with
    | zero => intro o a _ h; exact h
    | succ b ih =>
      intro o a hb h
      have := ih o a (by omega) h
      simp only [addB]
      split
      · rename_i hc
        rw [Bool.and_eq_true, Bool.not_eq_true'] at hc
        exact small_snoc this (by omega) hc.2
      · exact this
  have hA : ∀ (x : Nat) (o : List Nat), Small n o → Small n (addA l n a x o) := by
    intro x
    induction x with
    | zero => intro o h; exact h
    | succ x ih =>
      intro o h
      have := ih o h
      simp only [addA]
      split
      · exact this
      · exact hB n _ x (Nat.le_refl _) this
  have hS : ∀ s, Small n (addS l n a s []) := by
    intro s
    induction s with
    | zero => exact small_nil n
    | succ s ih => exact hA n _ ih
  exact hS n
end Topo
set_option maxRecDepth 100000 in
set_option maxHeartbeats 8000000 in
theorem pc_Must (n : Nat) (hn : n ≤ 16) (l : List Pr) (hl : l.length ≤ maxLen) : PC Try.prog 21 [.int .i64 n, encPs l] (encPs (mustR n l)) := by
  refine PC_intro 2 (by simp only [pureD.pureL, pure_encPs, pureD, Bool.and_self]) (pure_encPs _) (AC_intro [9] Try.func21 rfl (by decide +kernel) mixed (by decide +kernel) (by simp [Try.ntmps21]) ?_)
  show awp _ _ (Code.seq _ _) _ _
  repeat' (first | refine awp_assoc ?_ | ((first | refine awp_seq_reg fun K hK => ?_ | refine awp_seq_draw (by decide +kernel) fun K hK => ?_ | refine awp_reg' fun K hK => ?_ | refine awp_draw' (by decide +kernel) fun K hK => ?_); (simp (disch := omega) only [go_sem, Nat.reduceBEq, reduceCtorEq, Nat.reduceAdd, Nat.reduceMul, encPs])) | ((first | refine awp_seq_cond _ rfl (fun hc => ?_) (fun hc => ?_) | refine awp_cond _ rfl (fun hc => ?_) (fun hc => ?_)) <;> (first | (cases hc; done) | ((try simp only [decide_eq_true_eq, decide_eq_false_iff_not, Classical.not_not, beq_iff_eq, beq_eq_false_iff_ne, bne_iff_ne, ne_eq, Bool.not_eq_true', Bool.not_eq_false', Bool.and_eq_true, Bool.or_eq_true, Bool.and_eq_false_imp, Bool.or_eq_false_iff, Bool.not_eq_true, Bool.not_eq_false] at hc); (try (exfalso; omega))))) | refine awp_seq_block ?_ | refine awp_block ?_ | refine awp_seq_skip ?_ | refine awp_seq_ret ?_ | refine awp_seq_exit ?_ | refine awp_skip ?_ | refine awp_exit ?_ | refine awp_ret ?_ | refine seqK_n ?_ | refine seqK_e ?_ | refine seqK_r ?_ | refine blkK_n ?_ | refine blkK_e ?_ | refine blkK_o rfl ?_ | refine blkK_r ?_ | refine loopK_e ?_ | refine loopK_r ?_ | (first | refine retQ_K (by (simp (disch := omega) only [go_sem]); rfl) ?_ | refine retQ_K' (by (simp (disch := omega) only [go_sem]); rfl) ?_) | (refine hK _ ?_; clear hK K) | (refine stepG_split (fun hb => ?_) (fun hb => ?_) <;> (have hb2 := hb; try simp only [decide_eq_true_eq, decide_eq_false_iff_not, Classical.not_not, beq_iff_eq, beq_eq_false_iff_ne, bne_iff_ne, ne_eq, Bool.not_eq_true', Bool.not_eq_false', Bool.and_eq_true, Bool.or_eq_true, Bool.and_eq_false_imp, Bool.or_eq_false_iff, Bool.not_eq_true, Bool.not_eq_false] at hb2) <;> ((first | have hb3 : (_ : Bool) = _ := hb2 | have hb3 := eq_false hb2 | have hb3 := eq_true hb2); (simp (disch := omega) only [go_sem, Nat.reduceBEq, Nat.reduceBeqDiff, Nat.reduceEqDiff, reduceIte, reduceCtorEq, Nat.reduceAdd, Nat.reduceMul, Nat.reduceLeDiff, Nat.reduceLT, Int.reduceLT, Int.reduceLE, Int.reduceEq, hb, hb3, encPs]); clear hb hb3; (try (exfalso; omega)))) | (exfalso; omega))
  (refine awp_loop' (fun mz st => ∃ (a : _) (out : List Pr), mz = n - a ∧ st.t 0 = .int .i64 n ∧ st.t 1 = encPs l ∧ st.t 5 = .osl 0 out.length ∧ st.t 6 = .int .i64 a ∧ st.H 0 = some (.row 35 out.length (out.flatMap fun p => [.int .i64 p.1, .int .i64 p.2])) ∧ (a ≤ n) ∧ (out = allP (fun (a b : Nat) => inL (reachR n a l) b) n a)) ?_ ?_); rotate_left; (rintro mz st ⟨a, out, rfl, s0, s1, s5, s6, sH0, sp0, sp1⟩); rotate_left
  · (refine ⟨_, 0, [], rfl, ?_⟩); (simp (disch := omega) only [go_sem, Nat.reduceBEq, true_and, Int.natCast_zero, List.flatMap_nil, encPs])
    rfl
  have hol : out.length ≤ 256 := by
    rw [sp1]
    exact Nat.le_trans (allP_length _ n a) (Nat.le_trans (Nat.mul_le_mul (show a ≤ 16 by omega) (show n ≤ 16 by omega)) (by decide))
  have hsm := small_len (reach_small n a l)
  repeat' (first | refine awp_assoc ?_ | ((first | refine awp_seq_reg fun K hK => ?_ | refine awp_seq_draw (by decide +kernel) fun K hK => ?_ | refine awp_reg' fun K hK => ?_ | refine awp_draw' (by decide +kernel) fun K hK => ?_); (simp (disch := omega) only [go_sem, Nat.reduceBEq, s0, s1, s5, s6, encPs])) | ((first | refine awp_seq_cond _ rfl (fun hc => ?_) (fun hc => ?_) | refine awp_cond _ rfl (fun hc => ?_) (fun hc => ?_)) <;> (first | (cases hc; done) | ((try simp only [decide_eq_true_eq, decide_eq_false_iff_not] at hc); (try (exfalso; omega))))) | refine awp_seq_block ?_ | refine awp_block ?_ | refine awp_seq_skip ?_ | refine awp_seq_ret ?_ | refine awp_seq_exit ?_ | refine awp_skip ?_ | refine awp_exit ?_ | refine awp_ret ?_ | refine seqK_n ?_ | refine seqK_e ?_ | refine seqK_r ?_ | refine blkK_n ?_ | refine blkK_e ?_ | refine blkK_o rfl ?_ | refine blkK_r ?_ | refine loopK_e ?_ | refine loopK_r ?_ | (first | refine retQ_K (by (simp (disch := omega) only [go_sem]); rfl) ?_ | refine retQ_K' (by (simp (disch := omega) only [go_sem]); rfl) ?_) | (refine hK _ ?_; clear hK K) | ((first | refine callW_pc (pc_Reach n a hn l hl) ?_ | refine callD_pc (pc_Reach n a hn l hl) ?_); (simp (disch := omega) only [go_sem, Nat.reduceBEq])) | (refine stepG_split (fun hb => ?_) (fun hb => ?_) <;> (have hb2 := hb; try simp only [decide_eq_true_eq, decide_eq_false_iff_not, Classical.not_not, beq_iff_eq, beq_eq_false_iff_ne, bne_iff_ne, ne_eq, Bool.not_eq_true', Bool.not_eq_false', Bool.and_eq_true, Bool.or_eq_true, Bool.and_eq_false_imp, Bool.or_eq_false_iff, Bool.not_eq_true, Bool.not_eq_false] at hb2) <;> ((first | have hb3 : (_ : Bool) = _ := hb2 | have hb3 := eq_false hb2 | have hb3 := eq_true hb2); (simp (disch := omega) only [go_sem, Nat.reduceBEq, Nat.reduceBeqDiff, Nat.reduceEqDiff, reduceIte, reduceCtorEq, Nat.reduceAdd, Nat.reduceMul, Nat.reduceLeDiff, Nat.reduceLT, Int.reduceLT, Int.reduceLE, Int.reduceEq, hb, hb3, s0, s1, s5, s6, sH0, encPs]); clear hb hb3; (try (exfalso; omega)))) | (exfalso; omega))
  · generalize hr : reachR n a l = r at *
    (refine awp_loop' (fun mz st => ∃ (b : _) (o : List Pr), mz = n - b ∧ st.t 0 = .int .i64 n ∧ st.t 1 = encPs l ∧ st.t 5 = .osl 0 o.length ∧ st.t 6 = .int .i64 a ∧ st.t 7 = encN r ∧ st.t 8 = .int .i64 b ∧ st.H 0 = some (.row 35 o.length (o.flatMap fun p => [.int .i64 p.1, .int .i64 p.2])) ∧ (b ≤ n) ∧ (o = out ++ rowP (fun (b : Nat) => inL r b) a b)) ?_ ?_); rotate_left; (rintro mz st ⟨b, o, rfl, p0, p1, p5, p6, p7, p8, pH0, pp0, pp1⟩); rotate_left
    · (refine ⟨_, 0, out, rfl, ?_⟩); (simp (disch := omega) only [go_sem, Nat.reduceBEq, s0, s1, s5, s6, sH0, true_and, Int.natCast_zero, encPs])
      simp [rowP]
    have hrl := rowP_length (fun (b : Nat) => inL r b) a b
    have hol2 : o.length ≤ 300 := by rw [pp1, List.length_append]; omega
    have hat := fun x => pc_atN r x (by unfold maxLen; omega)
    repeat' (first | refine awp_assoc ?_ | ((first | refine awp_seq_reg fun K hK => ?_ | refine awp_seq_draw (by decide +kernel) fun K hK => ?_ | refine awp_reg' fun K hK => ?_ | refine awp_draw' (by decide +kernel) fun K hK => ?_); (simp (disch := omega) only [go_sem, Nat.reduceBEq, reduceCtorEq, Nat.reduceAdd, Nat.reduceMul, Nat.reduceLeDiff, p0, p5, p6, p7, p8, pH0])) | ((first | refine awp_seq_cond _ rfl (fun hc => ?_) (fun hc => ?_) | refine awp_cond _ rfl (fun hc => ?_) (fun hc => ?_)) <;> (first | (cases hc; done) | ((try simp only [decide_eq_true_eq, decide_eq_false_iff_not] at hc); (try (exfalso; omega))))) | refine awp_seq_block ?_ | refine awp_block ?_ | refine awp_seq_skip ?_ | refine awp_seq_ret ?_ | refine awp_seq_exit ?_ | refine awp_skip ?_ | refine awp_exit ?_ | refine awp_ret ?_ | refine seqK_n ?_ | refine seqK_e ?_ | refine seqK_r ?_ | refine blkK_n ?_ | refine blkK_e ?_ | refine blkK_o rfl ?_ | refine blkK_r ?_ | refine loopK_e ?_ | refine loopK_r ?_ | (first | refine retQ_K (by (simp (disch := omega) only [go_sem]); rfl) ?_ | refine retQ_K' (by (simp (disch := omega) only [go_sem]); rfl) ?_) | (refine hK _ ?_; clear hK K) | ((first | refine callW_pc (hat b) ?_ | refine callD_pc (hat b) ?_); (simp (disch := omega) only [go_sem, Nat.reduceBEq])) | (refine stepG_split (fun hb => ?_) (fun hb => ?_) <;> (have hb2 := hb; try simp only [decide_eq_true_eq, decide_eq_false_iff_not, Classical.not_not, beq_iff_eq, beq_eq_false_iff_ne, bne_iff_ne, ne_eq, Bool.not_eq_true', Bool.not_eq_false', Bool.and_eq_true, Bool.or_eq_true, Bool.and_eq_false_imp, Bool.or_eq_false_iff, Bool.not_eq_true, Bool.not_eq_false] at hb2) <;> ((first | have hb3 : (_ : Bool) = _ := hb2 | have hb3 := eq_false hb2 | have hb3 := eq_true hb2); (simp (disch := omega) only [go_sem, Nat.reduceBEq, Nat.reduceBeqDiff, Nat.reduceEqDiff, reduceIte, reduceCtorEq, Nat.reduceAdd, Nat.reduceMul, Nat.reduceLeDiff, Nat.reduceLT, Int.reduceLT, Int.reduceLE, Int.reduceEq, hb, hb3, p0, p1, p5, p6, p7, p8, pH0, encPs]); clear hb hb3; (try (exfalso; omega)))) | (exfalso; omega))
    · have hin : inL r b = true := by
        cases hi : inL r b with
        | true => rfl
        | false => have := (atN_neg r b).2 hi; omega
      (refine Exists.intro _ (And.intro ?_ ⟨b + 1, o ++ [((a : Int), (b : Int))], rfl, ?_⟩)); rotate_left; (simp (disch := omega) only [go_sem, Nat.reduceBEq, p0, p1, p5, p6, p7, p8, pH0, true_and, Int.natCast_add, Int.natCast_one, List.flatMap_append, List.flatMap_cons, List.flatMap_nil, List.append_nil]); rotate_left
      · omega
      · refine ⟨by omega, ?_⟩
        simp only [rowP]; rw [if_pos hin, pp1, List.append_assoc]
    · have hin : ¬ inL r b = true := by
        rw [(atN_neg r b).1 (by omega)]; simp
      (refine Exists.intro _ (And.intro ?_ ⟨b + 1, o, rfl, ?_⟩)); rotate_left; (simp (disch := omega) only [go_sem, Nat.reduceBEq, p0, p1, p5, p6, p7, p8, pH0, true_and, Int.natCast_add, Int.natCast_one]); rotate_left
      · omega
      · refine ⟨by omega, ?_⟩
        simp only [rowP]; rw [if_neg hin, pp1]
    · have hb : b = n := by omega
      subst hb
      (refine Exists.intro _ (And.intro ?_ ⟨a + 1, o, rfl, ?_⟩)); rotate_left; (simp (disch := omega) only [go_sem, Nat.reduceBEq, p0, p1, p5, p6, pH0, true_and, Int.natCast_add, Int.natCast_one]); rotate_left
      · omega
      · refine ⟨by omega, ?_⟩
        rw [pp1, sp1, ← hr]; rfl
  · have ha : a = n := by omega
    subst ha
    rw [show mustR a l = out from sp1.symm]
    exact fin_of (sealD_rowAgg (f := fun p : Pr => [.int .i64 p.1, .int .i64 p.2]) 0 sH0 isAggT35 sizeT35 (fun _ => rfl) (fun _ => rfl))
end Go.Proofs.Ytjibdljdkgedcaa
