/-
  The walks of the reference's free, Order. No condition but lengths.
-/
import Derived.Test.YtjibdljdkgedcaaRefAt
import Derived.Test.YtjibdljdkgedcaaSort
namespace Go.Proofs.Ytjibdljdkgedcaa
open Abs Facts Topo
attribute [local irreducible] awp
namespace Topo
def inL (row : List Nat) (x : Int) : Bool := row.any fun y => decide ((y : Int) = x)
def atN (row : List Nat) (x : Int) : Int := atI (row.map fun (y : Nat) => (y : Int)) x
theorem atN_neg (row : List Nat) (x : Int) : atN row x < 0 ↔ inL row x = false := by
  unfold atN atI inL
  cases h : (row.map fun (y : Nat) => (y : Int)).findIdx? (fun y => decide (y = x)) with
  | none =>
    simp only [true_iff, show ((-1 : Int) < 0) = True from by simp]
    rw [List.findIdx?_eq_none_iff] at h
    rw [List.any_eq_false]
    intro y hy
    exact by simpa using h (y : Int) (List.mem_map.2 ⟨y, hy, rfl⟩)
  | some i =>
    obtain ⟨hi, he, _⟩ := List.findIdx?_eq_some_iff_getElem.1 h
    have : (row.any fun y => decide ((y : Int) = x)) = true := by
      rw [List.any_eq_true]
      exact ⟨row[i]'(by simpa using hi), List.getElem_mem _, by simpa using he⟩
    rw [this]; simp
def freeR (row : List Nat) (k : Nat) (l : List Pr) : Bool := !inL row k && l.all fun p => !(decide (p.2 = k) && !inL row p.1)
end Topo
theorem pc_atN (row : List Nat) (x : Int) (h : row.length ≤ maxLen) : PC Try.prog 31 [encN row, .int .i64 x] (.int .i64 (atN row x)) := by
  have := pc_at (row.map fun (y : Nat) => (y : Int)) x (by simpa using h)
  have e : encN row = encI (row.map fun (y : Nat) => (y : Int)) := by simp only [encI, encN, List.map_map]; rfl
  rw [e]; exact this
set_option maxRecDepth 100000 in
set_option maxHeartbeats 8000000 in
theorem pc_freeR (row : List Nat) (k : Nat) (l : List Pr) (h : row.length ≤ maxLen) (hl : l.length ≤ maxLen) : PC Try.prog 27 [encN row, .int .i64 k, encPs l] (.bool (freeR row k l)) := by
  have hat := fun x => pc_atN row x h
  unfold maxLen at hl h
  refine PC_intro 1 (by simp only [pureD.pureL, pure_encPs, pure_encN, pureD, Bool.and_self]) rfl (AC_intro [] Try.func27 rfl (by decide +kernel) mixed (by decide +kernel) (by simp [Try.ntmps27]) ?_)
  show awp _ _ (Code.seq _ _) _ _
  repeat' (first | refine awp_assoc ?_ | ((first | refine awp_seq_reg fun K hK => ?_ | refine awp_seq_draw (by decide +kernel) fun K hK => ?_ | refine awp_reg' fun K hK => ?_ | refine awp_draw' (by decide +kernel) fun K hK => ?_); (simp (disch := omega) only [go_sem, Nat.reduceBEq, encN, encPs])) | ((first | refine awp_seq_cond _ rfl (fun hc => ?_) (fun hc => ?_) | refine awp_cond _ rfl (fun hc => ?_) (fun hc => ?_)) <;> (first | (cases hc; done) | ((try simp only [decide_eq_true_eq, decide_eq_false_iff_not] at hc); (try (exfalso; omega))))) | refine awp_seq_block ?_ | refine awp_block ?_ | refine awp_seq_skip ?_ | refine awp_seq_ret ?_ | refine awp_seq_exit ?_ | refine awp_skip ?_ | refine awp_exit ?_ | refine awp_ret ?_ | refine seqK_n ?_ | refine seqK_e ?_ | refine seqK_r ?_ | refine blkK_n ?_ | refine blkK_e ?_ | refine blkK_o rfl ?_ | refine blkK_r ?_ | refine loopK_e ?_ | refine loopK_r ?_ | (first | refine retQ_K (by (simp (disch := omega) only [go_sem]); rfl) ?_ | refine retQ_K' (by (simp (disch := omega) only [go_sem]); rfl) ?_) | (refine hK _ ?_; clear hK K) | ((first | refine callW_pc (hat k) ?_ | refine callD_pc (hat k) ?_); (simp (disch := omega) only [go_sem, Nat.reduceBEq])) | ((first | refine callW_pc (hat _) ?_ | refine callD_pc (hat _) ?_); (simp (disch := omega) only [go_sem, Nat.reduceBEq, Nat.reduceBeqDiff, Nat.reduceEqDiff, reduceIte, reduceCtorEq, Nat.reduceAdd, Nat.reduceMul, Nat.reduceLeDiff, Nat.reduceLT, Int.reduceLT, Int.reduceLE, Int.reduceEq, encN, encPs, encP])) | (refine stepG_split (fun hb => ?_) (fun hb => ?_) <;> (have hb2 := hb; try simp only [decide_eq_true_eq, decide_eq_false_iff_not, Classical.not_not, beq_iff_eq, beq_eq_false_iff_ne, bne_iff_ne, ne_eq, Bool.not_eq_true', Bool.not_eq_false', Bool.and_eq_true, Bool.or_eq_true, Bool.and_eq_false_imp, Bool.or_eq_false_iff, Bool.not_eq_true, Bool.not_eq_false] at hb2) <;> ((first | have hb3 : (_ : Bool) = _ := hb2 | have hb3 := eq_false hb2 | have hb3 := eq_true hb2); (simp (disch := omega) only [go_sem, Nat.reduceBEq, Nat.reduceBeqDiff, Nat.reduceEqDiff, reduceIte, reduceCtorEq, Nat.reduceAdd, Nat.reduceMul, Nat.reduceLeDiff, Nat.reduceLT, Int.reduceLT, Int.reduceLE, Int.reduceEq, hb, hb3, encN, encPs, encP]); clear hb hb3; (try (exfalso; omega)))) | (exfalso; omega))
  · refine fin_bool ?_
    have hin : inL row k = true := by
      cases hi : inL row k with
      | true => rfl
      | false => have := (atN_neg row k).2 hi; omega
    simp only [freeR, hin]; rfl
  · have hin : inL row k = false := (atN_neg row k).1 (by omega)
    (refine awp_loop' (fun mz st => ∃ (i : _), mz = l.length - i ∧ st.t 0 = encN row ∧ st.t 1 = .int .i64 k ∧ st.t 2 = encPs l ∧ st.t 7 = .int .i64 i ∧ (i ≤ l.length) ∧ ((l.take i).all (fun p => !(decide (p.2 = k) && !inL row p.1)) = true)) ?_ ?_); rotate_left; (rintro mz st ⟨i, rfl, s0, s1, s2, s7, sp0, sp1⟩); rotate_left
    · (refine ⟨_, 0, rfl, ?_⟩); (simp (disch := omega) only [go_sem, Nat.reduceBEq, true_and, Int.natCast_zero, encPs, encN])
      rfl
    repeat' (first | refine awp_assoc ?_ | ((first | refine awp_seq_reg fun K hK => ?_ | refine awp_seq_draw (by decide +kernel) fun K hK => ?_ | refine awp_reg' fun K hK => ?_ | refine awp_draw' (by decide +kernel) fun K hK => ?_); (simp (disch := omega) only [go_sem, Nat.reduceBEq, reduceCtorEq, Nat.reduceAdd, Nat.reduceLeDiff, s1, s2, s7, encPs, encP])) | ((first | refine awp_seq_cond _ rfl (fun hc => ?_) (fun hc => ?_) | refine awp_cond _ rfl (fun hc => ?_) (fun hc => ?_)) <;> (first | (cases hc; done) | ((try simp only [decide_eq_true_eq, decide_eq_false_iff_not] at hc); (try (exfalso; omega))))) | refine awp_seq_block ?_ | refine awp_block ?_ | refine awp_seq_skip ?_ | refine awp_seq_ret ?_ | refine awp_seq_exit ?_ | refine awp_skip ?_ | refine awp_exit ?_ | refine awp_ret ?_ | refine seqK_n ?_ | refine seqK_e ?_ | refine seqK_r ?_ | refine blkK_n ?_ | refine blkK_e ?_ | refine blkK_o rfl ?_ | refine blkK_r ?_ | refine loopK_e ?_ | refine loopK_r ?_ | (first | refine retQ_K (by (simp (disch := omega) only [go_sem]); rfl) ?_ | refine retQ_K' (by (simp (disch := omega) only [go_sem]); rfl) ?_) | (refine hK _ ?_; clear hK K) | ((first | refine callW_pc (hat _) ?_ | refine callD_pc (hat _) ?_); (simp (disch := omega) only [go_sem, Nat.reduceBEq])) | (refine stepG_split (fun hb => ?_) (fun hb => ?_) <;> (have hb2 := hb; try simp only [decide_eq_true_eq, decide_eq_false_iff_not] at hb2) <;> ((first | have hb3 : (_ : Bool) = _ := hb2 | have hb3 := eq_false hb2 | have hb3 := eq_true hb2); (simp (disch := omega) only [go_sem, Nat.reduceBEq, reduceCtorEq, Nat.reduceAdd, Nat.reduceLeDiff, hb3, s0, s2, s7, encN, encPs, encP]); clear hb hb3; (try (exfalso; omega)))) | (exfalso; omega))
    · have hi : i < l.length := by omega
      refine fin_bool ?_
      have hin2 := (atN_neg row l[i].1).1 (by assumption)
      have : (l.all fun p => !(decide (p.2 = (k : Int)) && !inL row p.1)) = false := by
        rw [List.all_eq_false]
        exact ⟨l[i], List.getElem_mem _, by rw [hin2, decide_eq_true (by assumption)]; simp⟩
      simp only [freeR, this, Bool.and_false]
    · have hi : i < l.length := by omega
      have hin2 : inL row l[i].1 = true := by
        cases hx : inL row l[i].1 with
        | true => rfl
        | false => have := (atN_neg row l[i].1).2 hx; omega
      (refine Exists.intro _ (And.intro ?_ ⟨i + 1, rfl, ?_⟩)); rotate_left; (simp (disch := omega) only [go_sem, Nat.reduceBEq, s0, s1, s2, s7, true_and, Int.natCast_add, Int.natCast_one]); rotate_left
      · omega
      · refine ⟨by omega, ?_⟩
        rw [List.take_succ_eq_append_getElem hi, List.all_append, sp1, List.all_cons, hin2]; simp
    · have hi : i < l.length := by omega
      (refine Exists.intro _ (And.intro ?_ ⟨i + 1, rfl, ?_⟩)); rotate_left; (simp (disch := omega) only [go_sem, Nat.reduceBEq, s0, s1, s2, s7, true_and, Int.natCast_add, Int.natCast_one]); rotate_left
      · omega
      · refine ⟨by omega, ?_⟩
        rw [List.take_succ_eq_append_getElem hi, List.all_append, sp1, List.all_cons, decide_eq_false (by assumption)]; simp
    · have hi : l.take i = l := List.take_of_length_le (by omega)
      rw [hi] at sp1
      refine fin_bool ?_
      simp only [freeR, hin, sp1]; rfl
end Go.Proofs.Ytjibdljdkgedcaa
