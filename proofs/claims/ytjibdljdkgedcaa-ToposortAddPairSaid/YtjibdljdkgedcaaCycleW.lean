/-
  The walk of the law ToposortCycle. No condition but lengths.
-/
import Derived.Test.YtjibdljdkgedcaaRefClosing
import Derived.Test.YtjibdljdkgedcaaSortW
namespace Go.Proofs.Ytjibdljdkgedcaa
open Abs Facts Topo
attribute [local irreducible] awp
namespace Topo
def hasP (l : List Pr) (a b : Nat) : Bool := l.any fun p => decide (p.1 = (a : Int)) && decide (p.2 = (b : Int))
theorem hasP_adj {l : List Pr} {a b : Nat} (h : adj l a b) : hasP l a b = true := (pairB_iff l a b).2 h
end Topo
set_option maxRecDepth 100000 in
set_option maxHeartbeats 8000000 in
theorem pc_LawCycle (n : Int) (l : List Pr) (hl : l.length ≤ maxLen) : PC Try.prog 4 [.int .i64 n, encPs l] (.bool true) := by
  refine PC_intro 1 (by simp only [pureD.pureL, pure_encPs, pureD, Bool.and_self]) rfl (AC_intro [] Try.func4 rfl (by decide +kernel) mixed (by decide +kernel) (by simp [Try.ntmps4]) ?_)
  show awp _ _ (Code.seq _ _) _ _
  have hps := pc_Cycle n l hl
  have hpw := pc_Wrong n l hl
  by_cases hw : wrong n l = 0
  · obtain ⟨m, rfl, hm, hok, hlen, hg⟩ := wrong_pos hw
    have hpo := pc_Order m l (by omega) hl
    have hpc := pc_Circle m hm l hl
    obtain ⟨hcirc, hc0, hadj, hdis, hlt, hcl⟩ := cycle_law hm hok
    have hR : cycleR m l = cycleG (edges l) m := by
      unfold cycleR; rw [if_neg (by simp [hw]), hg, Int.toNat_natCast]
    rw [hR] at hps
    rw [hcirc] at hpc
    rw [hw] at hpw
    generalize cycleG (edges l) m = c at *
    have hpi := pc_Ints c c (by unfold maxLen; omega) (by unfold maxLen; omega)
    simp only [decide_true] at hpi
    have hiso : (orderF l m m []).isSome = decide (c = []) := by
      rw [Bool.eq_iff_iff, order_iff hok, decide_eq_true_iff]; exact hc0.symm
    have hiso2 : decide (c = []) = decide ((c.length : Int) = 0) := by
      congr 1; simp only [eq_iff_iff]
      cases c with
      | nil => simp
      | cons a b => simp; omega
    rw [hiso, hiso2] at hpo
    repeat' (first | refine awp_assoc ?_ | ((first | refine awp_seq_reg fun K hK => ?_ | refine awp_seq_draw (by decide +kernel) fun K hK => ?_ | refine awp_reg' fun K hK => ?_ | refine awp_draw' (by decide +kernel) fun K hK => ?_); (simp (disch := omega) only [go_sem, Nat.reduceBEq, encPs])) | ((first | refine awp_seq_cond _ rfl (fun hc => ?_) (fun hc => ?_) | refine awp_cond _ rfl (fun hc => ?_) (fun hc => ?_)) <;> (first | (cases hc; done) | ((try simp only [decide_eq_true_eq, decide_eq_false_iff_not, bne_iff_ne, ne_eq] at hc); (try (exfalso; omega))))) | refine awp_seq_block ?_ | refine awp_block ?_ | refine awp_seq_skip ?_ | refine awp_seq_ret ?_ | refine awp_seq_exit ?_ | refine awp_skip ?_ | refine awp_exit ?_ | refine awp_ret ?_ | refine seqK_n ?_ | refine seqK_e ?_ | refine seqK_r ?_ | refine blkK_n ?_ | refine blkK_e ?_ | refine blkK_o rfl ?_ | refine blkK_r ?_ | refine loopK_e ?_ | refine loopK_r ?_ | (first | refine retQ_K (by (simp (disch := omega) only [go_sem]); rfl) ?_ | refine retQ_K' (by (simp (disch := omega) only [go_sem]); rfl) ?_) | (refine hK _ ?_; clear hK K) | ((first | refine callW_pc (pc_awake) ?_ | refine callD_pc (pc_awake) ?_); (simp (disch := omega) only [go_sem, Nat.reduceBEq])) | ((first | refine callW_pc (hps) ?_ | refine callD_pc (hps) ?_); (simp (disch := omega) only [go_sem, Nat.reduceBEq, encN])) | ((first | refine callW_pc (hpw) ?_ | refine callD_pc (hpw) ?_); (simp (disch := omega) only [go_sem, Nat.reduceBEq])) | ((first | refine callW_pc (hpo) ?_ | refine callD_pc (hpo) ?_); (simp (disch := omega) only [go_sem, Nat.reduceBEq, encN])) | (refine stepG_split (fun hb => ?_) (fun hb => ?_) <;> (have hb2 := hb; try simp only [decide_eq_true_eq, decide_eq_false_iff_not, Classical.not_not, beq_iff_eq, beq_eq_false_iff_ne, bne_iff_ne, ne_eq, Bool.not_eq_true', Bool.not_eq_false', Bool.and_eq_true, Bool.or_eq_true, Bool.and_eq_false_imp, Bool.or_eq_false_iff, Bool.not_eq_true, Bool.not_eq_false] at hb2) <;> ((first | have hb3 : (_ : Bool) = _ := hb2 | have hb3 := eq_false hb2 | have hb3 := eq_true hb2); (simp (disch := omega) only [go_sem, Nat.reduceBEq, Nat.reduceBeqDiff, Nat.reduceEqDiff, reduceIte, reduceCtorEq, Nat.reduceAdd, Nat.reduceMul, Nat.reduceLeDiff, Nat.reduceLT, Int.reduceLT, Int.reduceLE, Int.reduceEq, hb, hb3, encPs, encN]); clear hb hb3; (try (exfalso; omega)))) | (exfalso; omega))
    all_goals first | exact fin_bool rfl | (exfalso; exact absurd trivial (by assumption)) | skip
    (refine awp_loop' (fun mz st => ∃ (i : _), mz = c.length - i ∧ st.t 0 = .int .i64 m ∧ st.t 1 = encPs l ∧ st.t 5 = encN c ∧ st.t 43 = .int .i64 c.length ∧ st.t 44 = .int .i64 i ∧ (i ≤ c.length)) ?_ ?_); rotate_left; (rintro mz st ⟨i, rfl, s0, s1, s5, s43, s44, sp0⟩); rotate_left
    · (refine ⟨_, 0, rfl, ?_⟩); (simp (disch := omega) only [go_sem, Nat.reduceBEq, and_self, Int.natCast_zero, encPs, encN])
      try rfl
    by_cases hic : i < c.length
    · have hj := hadj i hic
      have hmod : Int.tmod ((i : Int) + 1) (c.length : Int) = (((i + 1) % c.length : Nat) : Int) := by
        rw [Int.tmod_eq_emod_of_nonneg (by omega)]; norm_cast
      have hml : (i + 1) % c.length < c.length := Nat.mod_lt _ (by omega)
      generalize (i + 1) % c.length = j at *
      rw [getD_get hic, getD_get hml] at hj
      repeat' (first | refine awp_assoc ?_ | ((first | refine awp_seq_reg fun K hK => ?_ | refine awp_seq_draw (by decide +kernel) fun K hK => ?_ | refine awp_reg' fun K hK => ?_ | refine awp_draw' (by decide +kernel) fun K hK => ?_); (simp (disch := omega) only [go_sem, Nat.reduceBEq, s1, s43, s44, encPs])) | ((first | refine awp_seq_cond _ rfl (fun hc => ?_) (fun hc => ?_) | refine awp_cond _ rfl (fun hc => ?_) (fun hc => ?_)) <;> (first | (cases hc; done) | ((try simp only [decide_eq_true_eq, decide_eq_false_iff_not] at hc); (try (exfalso; omega))))) | refine awp_seq_block ?_ | refine awp_block ?_ | refine awp_seq_skip ?_ | refine awp_seq_ret ?_ | refine awp_seq_exit ?_ | refine awp_skip ?_ | refine awp_exit ?_ | refine awp_ret ?_ | refine seqK_n ?_ | refine seqK_e ?_ | refine seqK_r ?_ | refine blkK_n ?_ | refine blkK_e ?_ | refine blkK_o rfl ?_ | refine blkK_r ?_ | refine loopK_e ?_ | refine loopK_r ?_ | (first | refine retQ_K (by (simp (disch := omega) only [go_sem]); rfl) ?_ | refine retQ_K' (by (simp (disch := omega) only [go_sem]); rfl) ?_) | (refine hK _ ?_; clear hK K) | (refine stepG_split (fun hb => ?_) (fun hb => ?_) <;> (have hb2 := hb; try simp only [decide_eq_true_eq, decide_eq_false_iff_not, Classical.not_not, beq_iff_eq, beq_eq_false_iff_ne, bne_iff_ne, ne_eq, Bool.not_eq_true', Bool.not_eq_false', Bool.and_eq_true, Bool.or_eq_true, Bool.and_eq_false_imp, Bool.or_eq_false_iff, Bool.not_eq_true, Bool.not_eq_false] at hb2) <;> ((first | have hb3 : (_ : Bool) = _ := hb2 | have hb3 := eq_false hb2 | have hb3 := eq_true hb2); (simp (disch := omega) only [go_sem, Nat.reduceBEq, Nat.reduceBeqDiff, Nat.reduceEqDiff, reduceIte, reduceCtorEq, Nat.reduceAdd, Nat.reduceMul, Nat.reduceLeDiff, Nat.reduceLT, Int.reduceLT, Int.reduceLE, Int.reduceEq, hb, hb3, s0, s1, s5, s43, s44, encPs, encN]); clear hb hb3; (try (exfalso; omega)))) | (exfalso; omega))
      (refine awp_loop' (fun mz st => ∃ (q : _), mz = l.length - q ∧ st.t 0 = .int .i64 m ∧ st.t 1 = encPs l ∧ st.t 5 = encN c ∧ st.t 8 = .int .i64 i ∧ st.t 9 = .bool (hasP (l.take q) c[i] c[j]) ∧ st.t 43 = .int .i64 c.length ∧ st.t 44 = .int .i64 i ∧ st.t 47 = encPs l ∧ st.t 48 = .int .i64 l.length ∧ st.t 49 = .int .i64 q ∧ (q ≤ l.length)) ?_ ?_); rotate_left; (rintro mz st ⟨q, rfl, p0, p1, p5, p8, p9, p43, p44, p47, p48, p49, pp0⟩); rotate_left
      · (refine ⟨_, 0, rfl, ?_⟩); (simp (disch := omega) only [go_sem, Nat.reduceBEq, s0, s1, s5, s43, s44, true_and, and_true, and_self, Int.natCast_zero, encPs, encN])
        try rfl
      repeat' (first | refine awp_assoc ?_ | ((first | refine awp_seq_reg fun K hK => ?_ | refine awp_seq_draw (by decide +kernel) fun K hK => ?_ | refine awp_reg' fun K hK => ?_ | refine awp_draw' (by decide +kernel) fun K hK => ?_); (simp (disch := omega) only [go_sem, Nat.reduceBEq, reduceCtorEq, Nat.reduceAdd, Nat.reduceLeDiff, p8, p9, p47, p48, p49, encPs, encP])) | ((first | refine awp_seq_cond _ rfl (fun hc => ?_) (fun hc => ?_) | refine awp_cond _ rfl (fun hc => ?_) (fun hc => ?_)) <;> (first | (cases hc; done) | ((try simp only [decide_eq_true_eq, decide_eq_false_iff_not] at hc); (try (exfalso; omega))))) | refine awp_seq_block ?_ | refine awp_block ?_ | refine awp_seq_skip ?_ | refine awp_seq_ret ?_ | refine awp_seq_exit ?_ | refine awp_skip ?_ | refine awp_exit ?_ | refine awp_ret ?_ | refine seqK_n ?_ | refine seqK_e ?_ | refine seqK_r ?_ | refine blkK_n ?_ | refine blkK_e ?_ | refine blkK_o rfl ?_ | refine blkK_r ?_ | refine loopK_e ?_ | refine loopK_r ?_ | (first | refine retQ_K (by (simp (disch := omega) only [go_sem]); rfl) ?_ | refine retQ_K' (by (simp (disch := omega) only [go_sem]); rfl) ?_) | (refine hK _ ?_; clear hK K) | (refine stepG_split (fun hb => ?_) (fun hb => ?_) <;> (have hb2 := hb; try simp only [Bool.not_eq_true', Bool.not_eq_false'] at hb2) <;> ((first | have hb3 : (_ : Bool) = _ := hb2 | have hb3 := eq_false hb2 | have hb3 := eq_true hb2); (simp (disch := omega) only [go_sem, Nat.reduceBEq, reduceCtorEq, Nat.reduceAdd, Nat.reduceLeDiff, hb3, p5, p8, encN, hmod]); clear hb hb3; (try (exfalso; omega)))) | (exfalso; omega))
      · have h1 : hasP (l.take (q + 1)) c[i] c[j] = (decide (l[q].1 = ((c[i] : Nat) : Int)) && decide (l[q].2 = ((c[j] : Nat) : Int))) := by
          unfold hasP at *
          rw [List.take_succ_eq_append_getElem (by omega), List.any_append, ‹(l.take q).any _ = false›]; simp
        (refine Exists.intro _ (And.intro ?_ ⟨q + 1, rfl, ?_⟩)); rotate_left; (simp (disch := omega) only [go_sem, Nat.reduceBEq, p0, p1, p5, p8, p9, p43, p44, p47, p48, p49, true_and, Int.natCast_add, Int.natCast_one, h1]); rotate_left
        · omega
        · first | omega | exact ⟨trivial, by omega⟩
      · have h1 : hasP (l.take (q + 1)) c[i] c[j] = true := by
          unfold hasP at *
          rw [List.take_succ_eq_append_getElem (by omega), List.any_append, ‹(l.take q).any _ = true›]; rfl
        (refine Exists.intro _ (And.intro ?_ ⟨q + 1, rfl, ?_⟩)); rotate_left; (simp (disch := omega) only [go_sem, Nat.reduceBEq, p0, p1, p5, p8, p9, p43, p44, p47, p48, p49, true_and, Int.natCast_add, Int.natCast_one, h1]); rotate_left
        · omega
        · first | omega | exact ⟨trivial, by omega⟩
      · have hq : l.take q = l := List.take_of_length_le (by omega)
        have hh := hasP_adj hj
        rw [hq, hh] at p9
        (refine awp_loop' (fun mz st => ∃ (k : _), mz = i - k ∧ st.t 0 = .int .i64 m ∧ st.t 1 = encPs l ∧ st.t 5 = encN c ∧ st.t 8 = .int .i64 i ∧ st.t 9 = .bool true ∧ st.t 43 = .int .i64 c.length ∧ st.t 44 = .int .i64 i ∧ st.t 72 = .int .i64 i ∧ st.t 73 = .int .i64 k ∧ (k ≤ i)) ?_ ?_); rotate_left; (rintro mz st ⟨k, rfl, u0, u1, u5, u8, u9, u43, u44, u72, u73, up0⟩); rotate_left
        · (refine ⟨_, 0, rfl, ?_⟩); (simp (disch := omega) only [go_sem, Nat.reduceBEq, p0, p1, p5, p8, p9, p43, p44, and_self, Int.natCast_zero, encPs, encN])
          try exact ⟨p9, by omega⟩
        have hdk : ∀ (h : k < i), (decide (((c[k]'(by omega) : Nat) : Int) = ((c[i] : Nat) : Int))) = false := fun h => by
          have := hdis k i h hic
          rw [getD_get (by omega), getD_get hic] at this
          exact decide_eq_false (by omega)
        repeat' (first | refine awp_assoc ?_ | ((first | refine awp_seq_reg fun K hK => ?_ | refine awp_seq_draw (by decide +kernel) fun K hK => ?_ | refine awp_reg' fun K hK => ?_ | refine awp_draw' (by decide +kernel) fun K hK => ?_); (simp (disch := omega) only [go_sem, Nat.reduceBEq, reduceCtorEq, Nat.reduceAdd, u5, u8, u9, u44, u72, u73, encN])) | ((first | refine awp_seq_cond _ rfl (fun hc => ?_) (fun hc => ?_) | refine awp_cond _ rfl (fun hc => ?_) (fun hc => ?_)) <;> (first | (cases hc; done) | ((try simp only [decide_eq_true_eq, decide_eq_false_iff_not] at hc); (try (exfalso; omega))))) | refine awp_seq_block ?_ | refine awp_block ?_ | refine awp_seq_skip ?_ | refine awp_seq_ret ?_ | refine awp_seq_exit ?_ | refine awp_skip ?_ | refine awp_exit ?_ | refine awp_ret ?_ | refine seqK_n ?_ | refine seqK_e ?_ | refine seqK_r ?_ | refine blkK_n ?_ | refine blkK_e ?_ | refine blkK_o rfl ?_ | refine blkK_r ?_ | refine loopK_e ?_ | refine loopK_r ?_ | (first | refine retQ_K (by (simp (disch := omega) only [go_sem]); rfl) ?_ | refine retQ_K' (by (simp (disch := omega) only [go_sem]); rfl) ?_) | (refine hK _ ?_; clear hK K) | (refine stepG_split (fun hb => ?_) (fun hb => ?_) <;> (have hb2 := hb; try simp only [decide_eq_true_eq, decide_eq_false_iff_not, Classical.not_not, beq_iff_eq, beq_eq_false_iff_ne, bne_iff_ne, ne_eq, Bool.not_eq_true', Bool.not_eq_false', Bool.and_eq_true, Bool.or_eq_true, Bool.and_eq_false_imp, Bool.or_eq_false_iff, Bool.not_eq_true, Bool.not_eq_false] at hb2) <;> ((first | have hb3 : (_ : Bool) = _ := hb2 | have hb3 := eq_false hb2 | have hb3 := eq_true hb2); (simp (disch := omega) only [go_sem, Nat.reduceBEq, Nat.reduceBeqDiff, Nat.reduceEqDiff, reduceIte, reduceCtorEq, Nat.reduceAdd, Nat.reduceMul, Nat.reduceLeDiff, Nat.reduceLT, Int.reduceLT, Int.reduceLE, Int.reduceEq, hb, hb3, u0, u1, u5, u8, u9, u43, u44, u72, u73, encPs, encN, encP]); clear hb hb3; (try (exfalso; omega)))) | (exfalso; omega))
        · have hd := hdk (by omega)
          (refine Exists.intro _ (And.intro ?_ ⟨k + 1, rfl, ?_⟩)); rotate_left; (simp (disch := omega) only [go_sem, Nat.reduceBEq, u0, u1, u5, u8, u9, u43, u44, u72, u73, true_and, Int.natCast_add, Int.natCast_one]); rotate_left
          · omega
          · first | omega | (refine ⟨?_, by omega⟩; rw [hd]; rfl) | (refine ⟨?_, by omega⟩; simpa using hd)
        · (refine Exists.intro _ (And.intro ?_ ⟨i + 1, rfl, ?_⟩)); rotate_left; (simp (disch := omega) only [go_sem, Nat.reduceBEq, u0, u1, u5, u43, u44, true_and, Int.natCast_add, Int.natCast_one]); rotate_left
          · omega
          · omega
    · skip
      repeat' (first | refine awp_assoc ?_ | ((first | refine awp_seq_reg fun K hK => ?_ | refine awp_seq_draw (by decide +kernel) fun K hK => ?_ | refine awp_reg' fun K hK => ?_ | refine awp_draw' (by decide +kernel) fun K hK => ?_); (simp (disch := omega) only [go_sem, Nat.reduceBEq, s0, s43, s44])) | ((first | refine awp_seq_cond _ rfl (fun hc => ?_) (fun hc => ?_) | refine awp_cond _ rfl (fun hc => ?_) (fun hc => ?_)) <;> (first | (cases hc; done) | ((try simp only [decide_eq_true_eq, decide_eq_false_iff_not] at hc); (try (exfalso; omega))))) | refine awp_seq_block ?_ | refine awp_block ?_ | refine awp_seq_skip ?_ | refine awp_seq_ret ?_ | refine awp_seq_exit ?_ | refine awp_skip ?_ | refine awp_exit ?_ | refine awp_ret ?_ | refine seqK_n ?_ | refine seqK_e ?_ | refine seqK_r ?_ | refine blkK_n ?_ | refine blkK_e ?_ | refine blkK_o rfl ?_ | refine blkK_r ?_ | refine loopK_e ?_ | refine loopK_r ?_ | (first | refine retQ_K (by (simp (disch := omega) only [go_sem]); rfl) ?_ | refine retQ_K' (by (simp (disch := omega) only [go_sem]); rfl) ?_) | (refine hK _ ?_; clear hK K) | ((first | refine callW_pc (hpc) ?_ | refine callD_pc (hpc) ?_); (simp (disch := omega) only [go_sem, Nat.reduceBEq, encN])) | ((first | refine callW_pc (hpi) ?_ | refine callD_pc (hpi) ?_); (simp (disch := omega) only [go_sem, Nat.reduceBEq])) | (refine stepG_split (fun hb => ?_) (fun hb => ?_) <;> (have hb2 := hb; try simp only [decide_eq_true_eq, decide_eq_false_iff_not, Bool.not_eq_true', Bool.not_eq_false'] at hb2) <;> ((first | have hb3 : (_ : Bool) = _ := hb2 | have hb3 := eq_false hb2 | have hb3 := eq_true hb2); (simp (disch := omega) only [go_sem, Nat.reduceBEq, hb3, s0, s1, s5, encPs, encN]); clear hb hb3; (try (exfalso; omega)))) | (exfalso; omega))
      all_goals first | exact fin_bool rfl | skip
  · have hR : cycleR n l = [] := by unfold cycleR; rw [if_pos hw]
    rw [hR] at hps
    skip
    repeat' (first | refine awp_assoc ?_ | ((first | refine awp_seq_reg fun K hK => ?_ | refine awp_seq_draw (by decide +kernel) fun K hK => ?_ | refine awp_reg' fun K hK => ?_ | refine awp_draw' (by decide +kernel) fun K hK => ?_); (simp (disch := omega) only [go_sem, Nat.reduceBEq, encPs])) | ((first | refine awp_seq_cond _ rfl (fun hc => ?_) (fun hc => ?_) | refine awp_cond _ rfl (fun hc => ?_) (fun hc => ?_)) <;> (first | (cases hc; done) | ((try simp only [decide_eq_true_eq, decide_eq_false_iff_not, Classical.not_not] at hc); (try (exfalso; omega))))) | refine awp_seq_block ?_ | refine awp_block ?_ | refine awp_seq_skip ?_ | refine awp_seq_ret ?_ | refine awp_seq_exit ?_ | refine awp_skip ?_ | refine awp_exit ?_ | refine awp_ret ?_ | refine seqK_n ?_ | refine seqK_e ?_ | refine seqK_r ?_ | refine blkK_n ?_ | refine blkK_e ?_ | refine blkK_o rfl ?_ | refine blkK_r ?_ | refine loopK_e ?_ | refine loopK_r ?_ | (first | refine retQ_K (by (simp (disch := omega) only [go_sem]); rfl) ?_ | refine retQ_K' (by (simp (disch := omega) only [go_sem]); rfl) ?_) | (refine hK _ ?_; clear hK K) | ((first | refine callW_pc (pc_awake) ?_ | refine callD_pc (pc_awake) ?_); (simp (disch := omega) only [go_sem, Nat.reduceBEq])) | ((first | refine callW_pc (hps) ?_ | refine callD_pc (hps) ?_); (simp (disch := omega) only [go_sem, Nat.reduceBEq, encN])) | ((first | refine callW_pc (hpw) ?_ | refine callD_pc (hpw) ?_); (simp (disch := omega) only [go_sem, Nat.reduceBEq])) | (refine stepG_split (fun hb => ?_) (fun hb => ?_) <;> (have hb2 := hb; try simp only [decide_eq_true_eq, decide_eq_false_iff_not, Classical.not_not, beq_iff_eq, beq_eq_false_iff_ne, bne_iff_ne, ne_eq, Bool.not_eq_true', Bool.not_eq_false', Bool.and_eq_true, Bool.or_eq_true, Bool.and_eq_false_imp, Bool.or_eq_false_iff, Bool.not_eq_true, Bool.not_eq_false] at hb2) <;> ((first | have hb3 : (_ : Bool) = _ := hb2 | have hb3 := eq_false hb2 | have hb3 := eq_true hb2); (simp (disch := omega) only [go_sem, Nat.reduceBEq, Nat.reduceBeqDiff, Nat.reduceEqDiff, reduceIte, reduceCtorEq, Nat.reduceAdd, Nat.reduceMul, Nat.reduceLeDiff, Nat.reduceLT, Int.reduceLT, Int.reduceLE, Int.reduceEq, hb, hb3, encPs, encN]); clear hb hb3; (try (exfalso; omega)))) | (exfalso; omega))
    all_goals first | exact fin_bool rfl | skip
end Go.Proofs.Ytjibdljdkgedcaa
