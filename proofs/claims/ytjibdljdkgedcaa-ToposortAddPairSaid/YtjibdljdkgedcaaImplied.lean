/-
  The walk of Implied. No condition but lengths.
-/
import Derived.Test.YtjibdljdkgedcaaCycle
import Derived.Test.YtjibdljdkgedcaaReachLaw
namespace Go.Proofs.Ytjibdljdkgedcaa
open Abs Facts Topo
attribute [local irreducible] awp
namespace Topo
def impliedR (n : Int) (l : List Pr) : List Pr := if (sortR n l).1 ≠ 0 then [] else impliedF n.toNat (farL (graphL n l) n.toNat)
theorem sortR_zero {n : Int} {l : List Pr} (h : (sortR n l).1 = 0) : wrong n l = 0 := by
  unfold sortR at h
  split at h
  · exact h
  · rename_i hw; exact Classical.not_not.1 hw
end Topo
set_option maxRecDepth 100000 in
set_option maxHeartbeats 8000000 in
theorem pc_Implied (n : Int) (l : List Pr) (hl : l.length ≤ maxLen) : PC Try.prog 19 [.int .i64 n, encPs l] (encPs (impliedR n l)) := by
  refine PC_intro 2 (by simp only [pureD.pureL, pure_encPs, pureD, Bool.and_self]) (pure_encPs _) (AC_intro [10] Try.func19 rfl (by decide +kernel) mixed (by decide +kernel) (by simp [Try.ntmps19]) ?_)
  show awp _ _ (Code.seq _ _) _ _
  have hg : (graphL n l).length = 16 := graphL_length n l
  have hz := zeros_length
  have hz2 := okD_zero.1
  have hps := pc_Sort n l hl
  by_cases hs : (sortR n l).1 = 0
  · have hw := sortR_zero hs
    obtain ⟨h0, h16⟩ := wrong_nat hw
    obtain ⟨m, rfl⟩ : ∃ m : Nat, n = m := ⟨n.toNat, by omega⟩
    have hR : impliedR m l = impliedF m (farL (graphL m l) m) := by
      unfold impliedR; rw [if_neg (by simp [hs]), Int.toNat_natCast]
    have hpc := pc_made m l hl
    rw [hw] at hpc
    rw [hs] at hps
    rw [hR]
    generalize graphL (m : Int) l = g at *
    clear hR hw
    have hpf := pc_far m (by omega) g hg
    have hok : okD (farL g m) := okD_relK m (okD_initA g m okD_zero m) m
    generalize farL g m = d at *
    have hd := hok.1
    repeat' (first | refine awp_assoc ?_ | ((first | refine awp_seq_reg fun K hK => ?_ | refine awp_seq_draw (by decide +kernel) fun K hK => ?_ | refine awp_reg' fun K hK => ?_ | refine awp_draw' (by decide +kernel) fun K hK => ?_); (simp (disch := omega) only [go_sem, Nat.reduceBEq, Nat.reduceAdd, Nat.reduceLeDiff, Nat.reduceLT, cellsG_take])) | ((first | refine awp_seq_cond _ rfl (fun hc => ?_) (fun hc => ?_) | refine awp_cond _ rfl (fun hc => ?_) (fun hc => ?_)) <;> (first | (cases hc; done) | ((try simp only [] at hc); (try (exfalso; omega))))) | refine awp_seq_block ?_ | refine awp_block ?_ | refine awp_seq_skip ?_ | refine awp_seq_ret ?_ | refine awp_seq_exit ?_ | refine awp_skip ?_ | refine awp_exit ?_ | refine awp_ret ?_ | refine seqK_n ?_ | refine seqK_e ?_ | refine seqK_r ?_ | refine blkK_n ?_ | refine blkK_e ?_ | refine blkK_o rfl ?_ | refine blkK_r ?_ | refine loopK_e ?_ | refine loopK_r ?_ | (first | refine retQ_K (by (simp (disch := omega) only [go_sem]); rfl) ?_ | refine retQ_K' (by (simp (disch := omega) only [go_sem]); rfl) ?_) | (refine hK _ ?_; clear hK K) | ((first | refine callW_pc (hps) ?_ | refine callD_pc (hps) ?_); (simp (disch := omega) only [go_sem, Nat.reduceBEq])) | ((first | refine callW_pc (hpc) ?_ | refine callD_pc (hpc) ?_); (simp (disch := omega) only [go_sem, Nat.reduceBEq, Nat.reduceEqDiff, Nat.reduceAdd, Nat.reduceLeDiff, cellsG_splice])) | ((first | refine callW_pc (hpf) ?_ | refine callD_pc (hpf) ?_); (simp (disch := omega) only [go_sem, Nat.reduceBEq, Nat.reduceAdd, cellsF_splice])) | (refine stepG_split (fun hb => ?_) (fun hb => ?_) <;> (have hb2 := hb; try simp only [decide_eq_true_eq, decide_eq_false_iff_not, Classical.not_not, beq_iff_eq, beq_eq_false_iff_ne, bne_iff_ne, ne_eq, Bool.not_eq_true', Bool.not_eq_false', Bool.and_eq_true, Bool.or_eq_true, Bool.and_eq_false_imp, Bool.or_eq_false_iff, Bool.not_eq_true, Bool.not_eq_false] at hb2) <;> ((first | have hb3 : (_ : Bool) = _ := hb2 | have hb3 := eq_false hb2 | have hb3 := eq_true hb2); (simp (disch := omega) only [go_sem, Nat.reduceBEq, Nat.reduceBeqDiff, Nat.reduceEqDiff, reduceIte, reduceCtorEq, Nat.reduceAdd, Nat.reduceMul, Nat.reduceLeDiff, Nat.reduceLT, Int.reduceLT, Int.reduceLE, Int.reduceEq, hb, hb3, cellsG_take, cellsG_splice, cellsG_getS, cellsF_splice]); clear hb hb3; (try (exfalso; omega)))) | (exfalso; omega))
    (refine awp_loop' (fun mz st => ∃ (a : _) (out : List Pr), mz = m - a ∧ st.t 9 = .ptr 1 0 ∧ st.t 10 = .osl 2 out.length ∧ st.t 29 = .int .i64 m ∧ st.t 30 = .int .i64 a ∧ st.t 0 = .int .i64 m ∧ st.H 1 = some (.box 57 (cellsF d)) ∧ st.H 2 = some (.row 35 out.length (out.flatMap fun p => [.int .i64 p.1, .int .i64 p.2])) ∧ (a ≤ m) ∧ (out = allP (fun a b => decide (at2 d a b < 16)) m a) ∧ (3 ≤ st.nx)) ?_ ?_); rotate_left; (rintro mz st ⟨a, out, rfl, s9, s10, s29, s30, s0, sH1, sH2, sp0, sp1, sp2⟩); rotate_left
    · (refine ⟨_, 0, [], rfl, ?_⟩); (simp (disch := omega) only [go_sem, Nat.reduceBEq, Nat.reduceLeDiff, true_and, and_true, Int.natCast_zero, List.flatMap_nil])
      rfl
    have hol : out.length ≤ 256 := by
      rw [sp1]
      exact Nat.le_trans (allP_length _ m a) (Nat.le_trans (Nat.mul_le_mul (show a ≤ 16 by omega) (show m ≤ 16 by omega)) (by decide))
    repeat' (first | refine awp_assoc ?_ | ((first | refine awp_seq_reg fun K hK => ?_ | refine awp_seq_draw (by decide +kernel) fun K hK => ?_ | refine awp_reg' fun K hK => ?_ | refine awp_draw' (by decide +kernel) fun K hK => ?_); (simp (disch := omega) only [go_sem, Nat.reduceBEq, s10, s29, s30, s0])) | ((first | refine awp_seq_cond _ rfl (fun hc => ?_) (fun hc => ?_) | refine awp_cond _ rfl (fun hc => ?_) (fun hc => ?_)) <;> (first | (cases hc; done) | ((try simp only [decide_eq_true_eq, decide_eq_false_iff_not] at hc); (try (exfalso; omega))))) | refine awp_seq_block ?_ | refine awp_block ?_ | refine awp_seq_skip ?_ | refine awp_seq_ret ?_ | refine awp_seq_exit ?_ | refine awp_skip ?_ | refine awp_exit ?_ | refine awp_ret ?_ | refine seqK_n ?_ | refine seqK_e ?_ | refine seqK_r ?_ | refine blkK_n ?_ | refine blkK_e ?_ | refine blkK_o rfl ?_ | refine blkK_r ?_ | refine loopK_e ?_ | refine loopK_r ?_ | (first | refine retQ_K (by (simp (disch := omega) only [go_sem]); rfl) ?_ | refine retQ_K' (by (simp (disch := omega) only [go_sem]); rfl) ?_) | (refine hK _ ?_; clear hK K) | (refine stepG_split (fun hb => ?_) (fun hb => ?_) <;> (have hb2 := hb; try simp only [decide_eq_true_eq, decide_eq_false_iff_not, Classical.not_not, beq_iff_eq, beq_eq_false_iff_ne, bne_iff_ne, ne_eq, Bool.not_eq_true', Bool.not_eq_false', Bool.and_eq_true, Bool.or_eq_true, Bool.and_eq_false_imp, Bool.or_eq_false_iff, Bool.not_eq_true, Bool.not_eq_false] at hb2) <;> ((first | have hb3 : (_ : Bool) = _ := hb2 | have hb3 := eq_false hb2 | have hb3 := eq_true hb2); (simp (disch := omega) only [go_sem, Nat.reduceBEq, Nat.reduceBeqDiff, Nat.reduceEqDiff, reduceIte, reduceCtorEq, Nat.reduceAdd, Nat.reduceMul, Nat.reduceLeDiff, Nat.reduceLT, Int.reduceLT, Int.reduceLE, Int.reduceEq, hb, hb3, s9, s10, s29, s30, s0, sH1, sH2, cellsF_get]); clear hb hb3; (try (exfalso; omega)))) | (exfalso; omega))
    · (refine awp_loop' (fun mz st => ∃ (b : _) (o : List Pr), mz = m - b ∧ st.t 9 = .ptr 1 0 ∧ st.t 10 = .osl 2 o.length ∧ st.t 11 = .int .i64 a ∧ st.t 29 = .int .i64 m ∧ st.t 30 = .int .i64 a ∧ st.t 33 = .int .i64 m ∧ st.t 34 = .int .i64 b ∧ st.t 0 = .int .i64 m ∧ st.H 1 = some (.box 57 (cellsF d)) ∧ st.H 2 = some (.row 35 o.length (o.flatMap fun p => [.int .i64 p.1, .int .i64 p.2])) ∧ (b ≤ m) ∧ (o = out ++ rowP (fun b => decide (at2 d a b < 16)) a b) ∧ (3 ≤ st.nx)) ?_ ?_); rotate_left; (rintro mz st ⟨b, o, rfl, p9, p10, p11, p29, p30, p33, p34, p0, pH1, pH2, pp0, pp1, pp2⟩); rotate_left
      · (refine ⟨_, 0, out, rfl, ?_⟩); (simp (disch := omega) only [go_sem, Nat.reduceBEq, s9, s10, s29, s30, s0, sH1, sH2, true_and, Int.natCast_zero])
        exact ⟨by simp [rowP], by assumption⟩
      have hrl := rowP_length (fun b => decide (at2 d a b < 16)) a b
      have hol2 : o.length ≤ 300 := by rw [pp1, List.length_append]; omega
      repeat' (first | refine awp_assoc ?_ | ((first | refine awp_seq_reg fun K hK => ?_ | refine awp_seq_draw (by decide +kernel) fun K hK => ?_ | refine awp_reg' fun K hK => ?_ | refine awp_draw' (by decide +kernel) fun K hK => ?_); (simp (disch := omega) only [go_sem, Nat.reduceBEq, reduceCtorEq, Nat.reduceAdd, Nat.reduceMul, Nat.reduceLeDiff, p9, p10, p11, p30, p33, p34, pH1, pH2, cellsF_get])) | ((first | refine awp_seq_cond _ rfl (fun hc => ?_) (fun hc => ?_) | refine awp_cond _ rfl (fun hc => ?_) (fun hc => ?_)) <;> (first | (cases hc; done) | ((try simp only [decide_eq_true_eq, decide_eq_false_iff_not] at hc); (try (exfalso; omega))))) | refine awp_seq_block ?_ | refine awp_block ?_ | refine awp_seq_skip ?_ | refine awp_seq_ret ?_ | refine awp_seq_exit ?_ | refine awp_skip ?_ | refine awp_exit ?_ | refine awp_ret ?_ | refine seqK_n ?_ | refine seqK_e ?_ | refine seqK_r ?_ | refine blkK_n ?_ | refine blkK_e ?_ | refine blkK_o rfl ?_ | refine blkK_r ?_ | refine loopK_e ?_ | refine loopK_r ?_ | (first | refine retQ_K (by (simp (disch := omega) only [go_sem]); rfl) ?_ | refine retQ_K' (by (simp (disch := omega) only [go_sem]); rfl) ?_) | (refine hK _ ?_; clear hK K) | (refine stepG_split (fun hb => ?_) (fun hb => ?_) <;> (have hb2 := hb; try simp only [decide_eq_true_eq, decide_eq_false_iff_not, Classical.not_not, beq_iff_eq, beq_eq_false_iff_ne, bne_iff_ne, ne_eq, Bool.not_eq_true', Bool.not_eq_false', Bool.and_eq_true, Bool.or_eq_true, Bool.and_eq_false_imp, Bool.or_eq_false_iff, Bool.not_eq_true, Bool.not_eq_false] at hb2) <;> ((first | have hb3 : (_ : Bool) = _ := hb2 | have hb3 := eq_false hb2 | have hb3 := eq_true hb2); (simp (disch := omega) only [go_sem, Nat.reduceBEq, Nat.reduceBeqDiff, Nat.reduceEqDiff, reduceIte, reduceCtorEq, Nat.reduceAdd, Nat.reduceMul, Nat.reduceLeDiff, Nat.reduceLT, Int.reduceLT, Int.reduceLE, Int.reduceEq, hb, hb3, p9, p10, p11, p29, p30, p33, p34, p0, pH1, pH2, cellsF_get]); clear hb hb3; (try (exfalso; omega)))) | (exfalso; omega))
      · have hf : decide (at2 d a b < 16) = true := decide_eq_true (by assumption)
        (refine Exists.intro _ (And.intro ?_ ⟨b + 1, o ++ [((a : Int), (b : Int))], rfl, ?_⟩)); rotate_left; (simp (disch := omega) only [go_sem, Nat.reduceBEq, p9, p10, p11, p29, p30, p33, p34, p0, pH1, pH2, true_and, Int.natCast_add, Int.natCast_one, List.flatMap_append, List.flatMap_cons, List.flatMap_nil, List.append_nil]); rotate_left
        · omega
        · refine ⟨by omega, ?_, by omega⟩
          simp only [rowP]; rw [if_pos hf, pp1, List.append_assoc]
      · have hf : ¬ decide (at2 d a b < 16) = true := by rw [decide_eq_true_iff]; assumption
        (refine Exists.intro _ (And.intro ?_ ⟨b + 1, o, rfl, ?_⟩)); rotate_left; (simp (disch := omega) only [go_sem, Nat.reduceBEq, p9, p10, p11, p29, p30, p33, p34, p0, pH1, pH2, true_and, Int.natCast_add, Int.natCast_one]); rotate_left
        · omega
        · refine ⟨by omega, ?_, by omega⟩
          simp only [rowP]; rw [if_neg hf, pp1]
      · have hb : b = m := by omega
        subst hb
        (refine Exists.intro _ (And.intro ?_ ⟨a + 1, o, rfl, ?_⟩)); rotate_left; (simp (disch := omega) only [go_sem, Nat.reduceBEq, p9, p10, p29, p30, p0, pH1, pH2, true_and, Int.natCast_add, Int.natCast_one]); rotate_left
        · omega
        · refine ⟨by omega, ?_, by omega⟩
          rw [pp1, sp1]; rfl
    · have ha : a = m := by omega
      subst ha
      rw [show impliedF a d = out from sp1.symm]
      exact fin_of (sealD_rowAgg (f := fun p : Pr => [.int .i64 p.1, .int .i64 p.2]) 0 sH2 isAggT35 sizeT35 (fun _ => rfl) (fun _ => rfl))
  · have hR : impliedR n l = [] := by unfold impliedR; rw [if_pos hs]
    rw [hR]
    skip
    repeat' (first | refine awp_assoc ?_ | ((first | refine awp_seq_reg fun K hK => ?_ | refine awp_seq_draw (by decide +kernel) fun K hK => ?_ | refine awp_reg' fun K hK => ?_ | refine awp_draw' (by decide +kernel) fun K hK => ?_); (simp (disch := omega) only [go_sem, Nat.reduceBEq])) | ((first | refine awp_seq_cond _ rfl (fun hc => ?_) (fun hc => ?_) | refine awp_cond _ rfl (fun hc => ?_) (fun hc => ?_)) <;> (first | (cases hc; done) | ((try simp only [decide_eq_true_eq, decide_eq_false_iff_not, Classical.not_not] at hc); (try (exfalso; omega))))) | refine awp_seq_block ?_ | refine awp_block ?_ | refine awp_seq_skip ?_ | refine awp_seq_ret ?_ | refine awp_seq_exit ?_ | refine awp_skip ?_ | refine awp_exit ?_ | refine awp_ret ?_ | refine seqK_n ?_ | refine seqK_e ?_ | refine seqK_r ?_ | refine blkK_n ?_ | refine blkK_e ?_ | refine blkK_o rfl ?_ | refine blkK_r ?_ | refine loopK_e ?_ | refine loopK_r ?_ | (first | refine retQ_K (by (simp (disch := omega) only [go_sem]); rfl) ?_ | refine retQ_K' (by (simp (disch := omega) only [go_sem]); rfl) ?_) | (refine hK _ ?_; clear hK K) | ((first | refine callW_pc (hps) ?_ | refine callD_pc (hps) ?_); (simp (disch := omega) only [go_sem, Nat.reduceBEq])) | (refine stepG_split (fun hb => ?_) (fun hb => ?_) <;> (have hb2 := hb; try simp only [decide_eq_true_eq, decide_eq_false_iff_not, Classical.not_not, beq_iff_eq, beq_eq_false_iff_ne, bne_iff_ne, ne_eq, Bool.not_eq_true', Bool.not_eq_false', Bool.and_eq_true, Bool.or_eq_true, Bool.and_eq_false_imp, Bool.or_eq_false_iff, Bool.not_eq_true, Bool.not_eq_false] at hb2) <;> ((first | have hb3 : (_ : Bool) = _ := hb2 | have hb3 := eq_false hb2 | have hb3 := eq_true hb2); (simp (disch := omega) only [go_sem, Nat.reduceBEq, Nat.reduceBeqDiff, Nat.reduceEqDiff, reduceIte, reduceCtorEq, Nat.reduceAdd, Nat.reduceMul, Nat.reduceLeDiff, Nat.reduceLT, Int.reduceLT, Int.reduceLE, Int.reduceEq, hb, hb3, cellsG_take]); clear hb hb3; (try (exfalso; omega)))) | (exfalso; omega))
    exact fin_pure rfl (Le.nil 2)
end Go.Proofs.Ytjibdljdkgedcaa
