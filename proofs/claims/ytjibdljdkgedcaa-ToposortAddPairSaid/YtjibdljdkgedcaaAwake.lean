/-
  The walks of Ints and of awake: the examples of the chapter hold. No condition but lengths.
-/
import Derived.Test.YtjibdljdkgedcaaCount
import Derived.Test.YtjibdljdkgedcaaCycle
namespace Go.Proofs.Ytjibdljdkgedcaa
open Abs Facts Topo
attribute [local irreducible] awp
set_option maxRecDepth 100000 in
set_option maxHeartbeats 8000000 in
theorem pc_IntsI (a b : List Int) (ha : a.length ≤ maxLen) (hb : b.length ≤ maxLen) : PC Try.prog 14 [encI a, encI b] (.bool (decide (a = b))) := by
  unfold maxLen at ha hb
  refine PC_intro 1 (by simp only [pureD.pureL, pure_encI, Bool.and_self]) rfl (AC_intro [] Try.func14 rfl (by decide +kernel) mixed (by decide +kernel) (by simp [Try.ntmps14]) ?_)
  show awp _ _ (Code.seq _ _) _ _
  repeat' (first | refine awp_assoc ?_ | ((first | refine awp_seq_reg fun K hK => ?_ | refine awp_seq_draw (by decide +kernel) fun K hK => ?_ | refine awp_reg' fun K hK => ?_ | refine awp_draw' (by decide +kernel) fun K hK => ?_); (simp (disch := omega) only [go_sem, Nat.reduceBEq, encI])) | ((first | refine awp_seq_cond _ rfl (fun hc => ?_) (fun hc => ?_) | refine awp_cond _ rfl (fun hc => ?_) (fun hc => ?_)) <;> (first | (cases hc; done) | ((try simp only [decide_eq_true_eq, decide_eq_false_iff_not, Classical.not_not] at hc); (try (exfalso; omega))))) | refine awp_seq_block ?_ | refine awp_block ?_ | refine awp_seq_skip ?_ | refine awp_seq_ret ?_ | refine awp_seq_exit ?_ | refine awp_skip ?_ | refine awp_exit ?_ | refine awp_ret ?_ | refine seqK_n ?_ | refine seqK_e ?_ | refine seqK_r ?_ | refine blkK_n ?_ | refine blkK_e ?_ | refine blkK_o rfl ?_ | refine blkK_r ?_ | refine loopK_e ?_ | refine loopK_r ?_ | (first | refine retQ_K (by (simp (disch := omega) only [go_sem]); rfl) ?_ | refine retQ_K' (by (simp (disch := omega) only [go_sem]); rfl) ?_) | (refine hK _ ?_; clear hK K) | (refine stepG_split (fun hb => ?_) (fun hb => ?_) <;> (have hb2 := hb; try simp only [decide_eq_true_eq, decide_eq_false_iff_not, Classical.not_not, beq_iff_eq, beq_eq_false_iff_ne, bne_iff_ne, ne_eq, Bool.not_eq_true', Bool.not_eq_false', Bool.and_eq_true, Bool.or_eq_true, Bool.and_eq_false_imp, Bool.or_eq_false_iff, Bool.not_eq_true, Bool.not_eq_false] at hb2) <;> ((first | have hb3 : (_ : Bool) = _ := hb2 | have hb3 := eq_false hb2 | have hb3 := eq_true hb2); (simp (disch := omega) only [go_sem, Nat.reduceBEq, Nat.reduceBeqDiff, Nat.reduceEqDiff, reduceIte, reduceCtorEq, Nat.reduceAdd, Nat.reduceMul, Nat.reduceLeDiff, Nat.reduceLT, Int.reduceLT, Int.reduceLE, Int.reduceEq, hb, hb3, encI]); clear hb hb3; (try (exfalso; omega)))) | (exfalso; omega))
  · exact fin_bool (by have : ¬ a = b := fun e => by subst e; contradiction
                       simp [this])
  (refine awp_loop' (fun mz st => ∃ (k : _), mz = a.length - k ∧ st.t 0 = encI a ∧ st.t 1 = encI b ∧ st.t 5 = .int .i64 k ∧ (k ≤ a.length) ∧ (a.take k = b.take k)) ?_ ?_); rotate_left; (rintro mz st ⟨k, rfl, s0, s1, s5, sp0, sp1⟩); rotate_left
  · (refine ⟨_, 0, rfl, ?_⟩); (simp (disch := omega) only [go_sem, Nat.reduceBEq, and_self, Int.natCast_zero, encI])
    try simp
  have hlen : a.length = b.length := by omega
  repeat' (first | refine awp_assoc ?_ | ((first | refine awp_seq_reg fun K hK => ?_ | refine awp_seq_draw (by decide +kernel) fun K hK => ?_ | refine awp_reg' fun K hK => ?_ | refine awp_draw' (by decide +kernel) fun K hK => ?_); (simp (disch := omega) only [go_sem, Nat.reduceBEq, reduceCtorEq, Nat.reduceAdd, s0, s1, s5, encI])) | ((first | refine awp_seq_cond _ rfl (fun hc => ?_) (fun hc => ?_) | refine awp_cond _ rfl (fun hc => ?_) (fun hc => ?_)) <;> (first | (cases hc; done) | ((try simp only [decide_eq_true_eq, decide_eq_false_iff_not, Classical.not_not] at hc); (try (exfalso; omega))))) | refine awp_seq_block ?_ | refine awp_block ?_ | refine awp_seq_skip ?_ | refine awp_seq_ret ?_ | refine awp_seq_exit ?_ | refine awp_skip ?_ | refine awp_exit ?_ | refine awp_ret ?_ | refine seqK_n ?_ | refine seqK_e ?_ | refine seqK_r ?_ | refine blkK_n ?_ | refine blkK_e ?_ | refine blkK_o rfl ?_ | refine blkK_r ?_ | refine loopK_e ?_ | refine loopK_r ?_ | (first | refine retQ_K (by (simp (disch := omega) only [go_sem]); rfl) ?_ | refine retQ_K' (by (simp (disch := omega) only [go_sem]); rfl) ?_) | (refine hK _ ?_; clear hK K) | (refine stepG_split (fun hb => ?_) (fun hb => ?_) <;> (have hb2 := hb; try simp only [decide_eq_true_eq, decide_eq_false_iff_not, Classical.not_not, beq_iff_eq, beq_eq_false_iff_ne, bne_iff_ne, ne_eq, Bool.not_eq_true', Bool.not_eq_false', Bool.and_eq_true, Bool.or_eq_true, Bool.and_eq_false_imp, Bool.or_eq_false_iff, Bool.not_eq_true, Bool.not_eq_false] at hb2) <;> ((first | have hb3 : (_ : Bool) = _ := hb2 | have hb3 := eq_false hb2 | have hb3 := eq_true hb2); (simp (disch := omega) only [go_sem, Nat.reduceBEq, Nat.reduceBeqDiff, Nat.reduceEqDiff, reduceIte, reduceCtorEq, Nat.reduceAdd, Nat.reduceMul, Nat.reduceLeDiff, Nat.reduceLT, Int.reduceLT, Int.reduceLE, Int.reduceEq, hb, hb3, s0, s1, s5, encI]); clear hb hb3; (try (exfalso; omega)))) | (exfalso; omega))
  · exact fin_bool (by
      have : ¬ a = b := fun e => by subst e; contradiction
      simp [this])
  · (refine Exists.intro _ (And.intro ?_ ⟨k + 1, rfl, ?_⟩)); rotate_left; (simp (disch := omega) only [go_sem, Nat.reduceBEq, s0, s1, s5, true_and, Int.natCast_add, Int.natCast_one]); rotate_left
    · omega
    · have hk : k < a.length := by omega
      refine ⟨by omega, ?_⟩
      rw [List.take_succ_eq_append_getElem hk, List.take_succ_eq_append_getElem (by omega), sp1]
      congr 2
  · have h1 : k = a.length := by omega
    subst h1
    rw [List.take_length, hlen, List.take_length] at sp1
    exact fin_bool (by simp [sp1])
theorem encN_I (row : List Nat) : encN row = encI (row.map fun (y : Nat) => (y : Int)) := by simp only [encI, encN, List.map_map]; rfl
theorem pc_Ints (a b : List Nat) (ha : a.length ≤ maxLen) (hb : b.length ≤ maxLen) : PC Try.prog 14 [encN a, encN b] (.bool (decide (a = b))) := by
  have h := pc_IntsI (a.map fun (y : Nat) => (y : Int)) (b.map fun (y : Nat) => (y : Int)) (by simpa using ha) (by simpa using hb)
  rw [← encN_I, ← encN_I] at h
  have e : decide ((a.map fun (y : Nat) => (y : Int)) = b.map fun (y : Nat) => (y : Int)) = decide (a = b) := by
    congr 1
    simp only [eq_iff_iff]
    constructor
    · intro h
      exact List.map_inj_right (f := fun (y : Nat) => (y : Int)) (fun x y hxy => by have hxy : (x : Int) = y := hxy; omega) |>.1 h
    · intro h; rw [h]
  rw [e] at h; exact h
theorem exSort : sortR 4 [(2, 0), (3, 1)] = (0, [2, 0, 3, 1]) := by decide +kernel
theorem exCount : countR 4 [(2, 0), (3, 1)] = (6, 0) := by decide +kernel
theorem exCycle : cycleR 4 [(2, 0), (0, 2)] = [0, 2] := by decide +kernel
theorem cSort : PC Try.prog 11 [.int .i64 4, .rsl false 2 [.agg [.int .i64 2, .int .i64 0], .agg [.int .i64 3, .int .i64 1]]] (.tup [.rsl false 1 [.int .i64 2, .int .i64 0, .int .i64 3, .int .i64 1], .int .i64 0]) := by
  have h := pc_Sort 4 [(2, 0), (3, 1)] (by decide)
  rw [exSort] at h; exact h
theorem cCount : PC Try.prog 17 [.int .i64 4, .rsl false 2 [.agg [.int .i64 2, .int .i64 0], .agg [.int .i64 3, .int .i64 1]]] (.tup [.int .i64 6, .int .i64 0]) := by
  have h := pc_Count 4 [(2, 0), (3, 1)] (by decide)
  rw [exCount] at h; exact h
theorem cCycle : PC Try.prog 15 [.int .i64 4, .rsl false 2 [.agg [.int .i64 2, .int .i64 0], .agg [.int .i64 0, .int .i64 2]]] (.rsl false 1 [.int .i64 0, .int .i64 2]) := by
  have h := pc_Cycle 4 [(2, 0), (0, 2)] (by decide)
  rw [exCycle] at h; exact h
theorem cInts1 : PC Try.prog 14 [.rsl false 1 [.int .i64 2, .int .i64 0, .int .i64 3, .int .i64 1], .rsl false 1 [.int .i64 2, .int .i64 0, .int .i64 3, .int .i64 1]] (.bool true) := pc_IntsI [2, 0, 3, 1] [2, 0, 3, 1] (by decide) (by decide)
theorem cInts2 : PC Try.prog 14 [.rsl false 1 [.int .i64 0, .int .i64 2], .rsl false 1 [.int .i64 0, .int .i64 2]] (.bool true) := pc_IntsI [0, 2] [0, 2] (by decide) (by decide)
set_option maxRecDepth 100000 in
set_option maxHeartbeats 8000000 in
/-- The examples of the chapter hold. -/
theorem pc_awake : PC Try.prog 10 [] (.bool true) := by
  refine PC_intro 1 rfl rfl (AC_intro [] Try.func10 rfl (by decide +kernel) mixed (by decide +kernel) (by simp [Try.ntmps10]) ?_)
  show awp _ _ (Code.seq _ _) _ _
  repeat' (first | refine awp_assoc ?_ | ((first | refine awp_seq_reg fun K hK => ?_ | refine awp_seq_draw (by decide +kernel) fun K hK => ?_ | refine awp_reg' fun K hK => ?_ | refine awp_draw' (by decide +kernel) fun K hK => ?_); (simp (disch := omega) only [go_sem, Nat.reduceBEq, reduceCtorEq, Nat.reduceAdd, Nat.reduceMul, Nat.reduceLeDiff])) | ((first | refine awp_seq_cond _ rfl (fun hc => ?_) (fun hc => ?_) | refine awp_cond _ rfl (fun hc => ?_) (fun hc => ?_)) <;> (first | (cases hc; done) | ((try simp only [decide_eq_true_eq, decide_eq_false_iff_not, Classical.not_not, beq_iff_eq, beq_eq_false_iff_ne, bne_iff_ne, ne_eq, Bool.not_eq_true', Bool.not_eq_false', Bool.and_eq_true, Bool.or_eq_true, Bool.and_eq_false_imp, Bool.or_eq_false_iff, Bool.not_eq_true, Bool.not_eq_false] at hc); (try (exfalso; omega))))) | refine awp_seq_block ?_ | refine awp_block ?_ | refine awp_seq_skip ?_ | refine awp_seq_ret ?_ | refine awp_seq_exit ?_ | refine awp_skip ?_ | refine awp_exit ?_ | refine awp_ret ?_ | refine seqK_n ?_ | refine seqK_e ?_ | refine seqK_r ?_ | refine blkK_n ?_ | refine blkK_e ?_ | refine blkK_o rfl ?_ | refine blkK_r ?_ | refine loopK_e ?_ | refine loopK_r ?_ | (first | refine retQ_K (by (simp (disch := omega) only [go_sem]); rfl) ?_ | refine retQ_K' (by (simp (disch := omega) only [go_sem]); rfl) ?_) | (refine hK _ ?_; clear hK K) | ((first | refine callW_pc (PC.le (cSort) ?_ ?_) ?_ | refine callD_pc (PC.le (cSort) ?_ ?_) ?_); (focus ((first | rfl | simp only [pureD.pureL, pureD, Bool.and_self, go_sem]); done)); (focus ((repeat' (first | exact trivial | exact Le.refl _ | exact Le.rsl | exact Le.nil _ | refine ⟨?_, ?_⟩)); done)); (simp (disch := omega) only [go_sem, Nat.reduceBEq])) | ((first | refine callW_pc (PC.le (cCount) ?_ ?_) ?_ | refine callD_pc (PC.le (cCount) ?_ ?_) ?_); (focus ((first | rfl | simp only [pureD.pureL, pureD, Bool.and_self, go_sem]); done)); (focus ((repeat' (first | exact trivial | exact Le.refl _ | exact Le.rsl | exact Le.nil _ | refine ⟨?_, ?_⟩)); done)); (simp (disch := omega) only [go_sem, Nat.reduceBEq])) | ((first | refine callW_pc (PC.le (cCycle) ?_ ?_) ?_ | refine callD_pc (PC.le (cCycle) ?_ ?_) ?_); (focus ((first | rfl | simp only [pureD.pureL, pureD, Bool.and_self, go_sem]); done)); (focus ((repeat' (first | exact trivial | exact Le.refl _ | exact Le.rsl | exact Le.nil _ | refine ⟨?_, ?_⟩)); done)); (simp (disch := omega) only [go_sem, Nat.reduceBEq])) | ((first | refine callW_pc (PC.le (cInts1) ?_ ?_) ?_ | refine callD_pc (PC.le (cInts1) ?_ ?_) ?_); (focus ((first | rfl | simp only [pureD.pureL, pureD, Bool.and_self, go_sem]); done)); (focus ((repeat' (first | exact trivial | exact Le.refl _ | exact Le.rsl | exact Le.nil _ | refine ⟨?_, ?_⟩)); done)); (simp (disch := omega) only [go_sem, Nat.reduceBEq, reduceCtorEq, Nat.reduceAdd, Nat.reduceLeDiff])) | ((first | refine callW_pc (PC.le (cInts2) ?_ ?_) ?_ | refine callD_pc (PC.le (cInts2) ?_ ?_) ?_); (focus ((first | rfl | simp only [pureD.pureL, pureD, Bool.and_self, go_sem]); done)); (focus ((repeat' (first | exact trivial | exact Le.refl _ | exact Le.rsl | exact Le.nil _ | refine ⟨?_, ?_⟩)); done)); (simp (disch := omega) only [go_sem, Nat.reduceBEq])) | (refine stepG_split (fun hb => ?_) (fun hb => ?_) <;> (have hb2 := hb; try simp only [decide_eq_true_eq, decide_eq_false_iff_not, Classical.not_not, beq_iff_eq, beq_eq_false_iff_ne, bne_iff_ne, ne_eq, Bool.not_eq_true', Bool.not_eq_false', Bool.and_eq_true, Bool.or_eq_true, Bool.and_eq_false_imp, Bool.or_eq_false_iff, Bool.not_eq_true, Bool.not_eq_false] at hb2) <;> ((first | have hb3 : (_ : Bool) = _ := hb2 | have hb3 := eq_false hb2 | have hb3 := eq_true hb2); (simp (disch := omega) only [go_sem, Nat.reduceBEq, Nat.reduceBeqDiff, Nat.reduceEqDiff, reduceIte, reduceCtorEq, Nat.reduceAdd, Nat.reduceMul, Nat.reduceLeDiff, Nat.reduceLT, Int.reduceLT, Int.reduceLE, Int.reduceEq, hb, hb3]); clear hb hb3; (try (exfalso; omega)))) | (exfalso; omega))
  all_goals first | exact fin_bool rfl | skip
end Go.Proofs.Ytjibdljdkgedcaa
