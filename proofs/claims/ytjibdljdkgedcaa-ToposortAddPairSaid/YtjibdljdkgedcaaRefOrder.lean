/-
  The walk of the reference's Order. No condition but lengths.
-/
import Derived.Test.YtjibdljdkgedcaaRefFree
namespace Go.Proofs.Ytjibdljdkgedcaa
open Abs Facts Topo
attribute [local irreducible] awp
namespace Topo
def orderF (l : List Pr) (n : Nat) : Nat → List Nat → Option (List Nat)
  | 0, row => some row
  | k + 1, row => match (List.range n).find? (fun p => freeR row p l) with
    | none => none
    | some p => orderF l n k (row ++ [p])
end Topo
theorem rc_freeR (row : List Nat) (k : Nat) (l : List Pr) (h : row.length ≤ maxLen) (hl : l.length ≤ maxLen) {H : HM} {nx : Nat} (h0 : H 0 = some (.row 3 row.length (row.map fun x => .int .i64 (x : Nat)))) :
    RC Try.prog 27 [.osl 0 row.length, .int .i64 k, encPs l] H nx (.bool (freeR row k l)) := by
  refine PC.borrow (pc_freeR row k l h hl) rfl 2 ?_
  refine optL_cons ?_ (optL_cons (sealD_pure _ rfl) (optL_cons (sealD_pure _ (pure_encPs l)) optL_nil))
  exact sealD_row 0 h0 isAggT3 sizeT3 (by simp) (pureL_map (fun _ => rfl) _)
set_option maxRecDepth 100000 in
set_option maxHeartbeats 8000000 in
theorem pc_Order (m : Nat) (l : List Pr) (hm : m ≤ 1000) (hl : l.length ≤ maxLen) : PC Try.prog 13 [.int .i64 m, encPs l] (.tup [encN ((orderF l m m []).getD []), .bool (orderF l m m []).isSome]) := by
  refine PC_intro 3 (by simp only [pureD.pureL, pure_encPs, pureD, Bool.and_self]) (by simp only [pureD, pureD.pureL, pure_encN, Bool.and_self]) (AC_intro [8] Try.func13 rfl (by decide +kernel) mixed (by decide +kernel) (by simp [Try.ntmps13]) ?_)
  show awp _ _ (Code.seq _ _) _ _
  repeat' (first | refine awp_assoc ?_ | ((first | refine awp_seq_reg fun K hK => ?_ | refine awp_seq_draw (by decide +kernel) fun K hK => ?_ | refine awp_reg' fun K hK => ?_ | refine awp_draw' (by decide +kernel) fun K hK => ?_); (simp (disch := omega) only [go_sem, Nat.reduceBEq, reduceCtorEq, Nat.reduceAdd, encPs])) | ((first | refine awp_seq_cond _ rfl (fun hc => ?_) (fun hc => ?_) | refine awp_cond _ rfl (fun hc => ?_) (fun hc => ?_)) <;> (first | (cases hc; done) | ((try simp only [decide_eq_true_eq, decide_eq_false_iff_not, Classical.not_not, beq_iff_eq, beq_eq_false_iff_ne, bne_iff_ne, ne_eq, Bool.not_eq_true', Bool.not_eq_false', Bool.and_eq_true, Bool.or_eq_true, Bool.and_eq_false_imp, Bool.or_eq_false_iff, Bool.not_eq_true, Bool.not_eq_false] at hc); (try (exfalso; omega))))) | refine awp_seq_block ?_ | refine awp_block ?_ | refine awp_seq_skip ?_ | refine awp_seq_ret ?_ | refine awp_seq_exit ?_ | refine awp_skip ?_ | refine awp_exit ?_ | refine awp_ret ?_ | refine seqK_n ?_ | refine seqK_e ?_ | refine seqK_r ?_ | refine blkK_n ?_ | refine blkK_e ?_ | refine blkK_o rfl ?_ | refine blkK_r ?_ | refine loopK_e ?_ | refine loopK_r ?_ | (first | refine retQ_K (by (simp (disch := omega) only [go_sem]); rfl) ?_ | refine retQ_K' (by (simp (disch := omega) only [go_sem]); rfl) ?_) | (refine hK _ ?_; clear hK K) | (refine stepG_split (fun hb => ?_) (fun hb => ?_) <;> (have hb2 := hb; try simp only [decide_eq_true_eq, decide_eq_false_iff_not, Classical.not_not, beq_iff_eq, beq_eq_false_iff_ne, bne_iff_ne, ne_eq, Bool.not_eq_true', Bool.not_eq_false', Bool.and_eq_true, Bool.or_eq_true, Bool.and_eq_false_imp, Bool.or_eq_false_iff, Bool.not_eq_true, Bool.not_eq_false] at hb2) <;> ((first | have hb3 : (_ : Bool) = _ := hb2 | have hb3 := eq_false hb2 | have hb3 := eq_true hb2); (simp (disch := omega) only [go_sem, Nat.reduceBEq, Nat.reduceBeqDiff, Nat.reduceEqDiff, reduceIte, reduceCtorEq, Nat.reduceAdd, Nat.reduceMul, Nat.reduceLeDiff, Nat.reduceLT, Int.reduceLT, Int.reduceLE, Int.reduceEq, hb, hb3, encPs]); clear hb hb3; (try (exfalso; omega)))) | (exfalso; omega))
  (refine awp_loop' (fun mz st => ∃ (out : List Nat), mz = m - out.length ∧ st.t 0 = .int .i64 m ∧ st.t 1 = encPs l ∧ st.t 6 = .osl 0 out.length ∧ st.H 0 = some (.row 3 out.length (out.map fun x => .int .i64 (x : Nat))) ∧ (out.length ≤ m) ∧ (orderF l m m [] = orderF l m (m - out.length) out)) ?_ ?_); rotate_left; (rintro mz st ⟨out, rfl, s0, s1, s6, sH0, sp0, sp1⟩); rotate_left
  · (refine ⟨_, [], rfl, ?_⟩); (simp (disch := omega) only [go_sem, Nat.reduceBEq, true_and, List.map_nil, encPs])
    simp
  repeat' (first | refine awp_assoc ?_ | ((first | refine awp_seq_reg fun K hK => ?_ | refine awp_seq_draw (by decide +kernel) fun K hK => ?_ | refine awp_reg' fun K hK => ?_ | refine awp_draw' (by decide +kernel) fun K hK => ?_); (simp (disch := omega) only [go_sem, Nat.reduceBEq, s0, s6])) | ((first | refine awp_seq_cond _ rfl (fun hc => ?_) (fun hc => ?_) | refine awp_cond _ rfl (fun hc => ?_) (fun hc => ?_)) <;> (first | (cases hc; done) | ((try simp only [decide_eq_true_eq, decide_eq_false_iff_not] at hc); (try (exfalso; omega))))) | refine awp_seq_block ?_ | refine awp_block ?_ | refine awp_seq_skip ?_ | refine awp_seq_ret ?_ | refine awp_seq_exit ?_ | refine awp_skip ?_ | refine awp_exit ?_ | refine awp_ret ?_ | refine seqK_n ?_ | refine seqK_e ?_ | refine seqK_r ?_ | refine blkK_n ?_ | refine blkK_e ?_ | refine blkK_o rfl ?_ | refine blkK_r ?_ | refine loopK_e ?_ | refine loopK_r ?_ | (first | refine retQ_K (by (simp (disch := omega) only [go_sem]); rfl) ?_ | refine retQ_K' (by (simp (disch := omega) only [go_sem]); rfl) ?_) | (refine hK _ ?_; clear hK K) | (refine stepG_split (fun hb => ?_) (fun hb => ?_) <;> (have hb2 := hb; try simp only [decide_eq_true_eq, decide_eq_false_iff_not, Classical.not_not, beq_iff_eq, beq_eq_false_iff_ne, bne_iff_ne, ne_eq, Bool.not_eq_true', Bool.not_eq_false', Bool.and_eq_true, Bool.or_eq_true, Bool.and_eq_false_imp, Bool.or_eq_false_iff, Bool.not_eq_true, Bool.not_eq_false] at hb2) <;> ((first | have hb3 : (_ : Bool) = _ := hb2 | have hb3 := eq_false hb2 | have hb3 := eq_true hb2); (simp (disch := omega) only [go_sem, Nat.reduceBEq, Nat.reduceBeqDiff, Nat.reduceEqDiff, reduceIte, reduceCtorEq, Nat.reduceAdd, Nat.reduceMul, Nat.reduceLeDiff, Nat.reduceLT, Int.reduceLT, Int.reduceLE, Int.reduceEq, hb, hb3, s0, s1, s6, sH0, encPs]); clear hb hb3; (try (exfalso; omega)))) | (exfalso; omega))
  · (refine awp_loop' (fun mz st => ∃ (q : _), mz = m - q ∧ st.t 0 = .int .i64 m ∧ st.t 1 = encPs l ∧ st.t 6 = .osl 0 out.length ∧ st.t 7 = .int .i64 q ∧ st.H 0 = some (.row 3 out.length (out.map fun x => .int .i64 (x : Nat))) ∧ (q ≤ m) ∧ (∀ r, r < q → freeR out r l = false)) ?_ ?_); rotate_left; (rintro mz st ⟨q, rfl, p0, p1, p6, p7, pH0, pp0, pp1⟩); rotate_left
    · (refine ⟨_, 0, rfl, ?_⟩); (simp (disch := omega) only [go_sem, Nat.reduceBEq, s0, s1, s6, sH0, true_and, Int.natCast_zero])
      exact fun r hr => by omega
    have hfr := fun {H : HM} {nx : Nat} (h0 : H 0 = some (.row 3 out.length (out.map fun x => .int .i64 (x : Nat)))) => rc_freeR out q l (nx := nx) (by unfold maxLen; omega) hl h0
    repeat' (first | refine awp_assoc ?_ | ((first | refine awp_seq_reg fun K hK => ?_ | refine awp_seq_draw (by decide +kernel) fun K hK => ?_ | refine awp_reg' fun K hK => ?_ | refine awp_draw' (by decide +kernel) fun K hK => ?_); (simp (disch := omega) only [go_sem, Nat.reduceBEq, reduceCtorEq, Nat.reduceAdd, Nat.reduceMul, Nat.reduceLeDiff, Nat.reduceLT, p0, p6, p7, pH0])) | ((first | refine awp_seq_cond _ rfl (fun hc => ?_) (fun hc => ?_) | refine awp_cond _ rfl (fun hc => ?_) (fun hc => ?_)) <;> (first | (cases hc; done) | ((try simp only [decide_eq_true_eq, decide_eq_false_iff_not, Bool.not_eq_true', Bool.not_eq_false'] at hc); (try (exfalso; omega))))) | refine awp_seq_block ?_ | refine awp_block ?_ | refine awp_seq_skip ?_ | refine awp_seq_ret ?_ | refine awp_seq_exit ?_ | refine awp_skip ?_ | refine awp_exit ?_ | refine awp_ret ?_ | refine seqK_n ?_ | refine seqK_e ?_ | refine seqK_r ?_ | refine blkK_n ?_ | refine blkK_e ?_ | refine blkK_o rfl ?_ | refine blkK_r ?_ | refine loopK_e ?_ | refine loopK_r ?_ | (first | refine retQ_K (by (simp (disch := omega) only [go_sem]); rfl) ?_ | refine retQ_K' (by (simp (disch := omega) only [go_sem]); rfl) ?_) | (refine hK _ ?_; clear hK K) | ((first | refine callW_rc (hfr pH0) ?_ | refine callD_rc (hfr pH0) ?_); (simp (disch := omega) only [go_sem, Nat.reduceBEq])) | (refine stepG_split (fun hb => ?_) (fun hb => ?_) <;> (have hb2 := hb; try simp only [decide_eq_true_eq, decide_eq_false_iff_not] at hb2) <;> ((first | have hb3 : (_ : Bool) = _ := hb2 | have hb3 := eq_false hb2 | have hb3 := eq_true hb2); (simp (disch := omega) only [go_sem, Nat.reduceBEq, hb3, p1, p6, p7]); clear hb hb3; (try (exfalso; omega)))) | (exfalso; omega))
    · (refine Exists.intro _ (And.intro ?_ ⟨q + 1, rfl, ?_⟩)); rotate_left; (simp (disch := omega) only [go_sem, Nat.reduceBEq, p0, p1, p6, p7, pH0, true_and, Int.natCast_add, Int.natCast_one]); rotate_left
      · omega
      · refine ⟨by omega, fun r hr => ?_⟩
        by_cases hrq : r = q
        · subst hrq; assumption
        · exact pp1 r (by omega)
    · have hfind := find_some (f := fun p => freeR out p l) (p := q) (n := m) (by omega) (by assumption) pp1
      have hk : m - out.length = (m - (out.length + 1)) + 1 := by omega
      (refine Exists.intro _ (And.intro ?_ ⟨out ++ [q], rfl, ?_⟩)); rotate_left; (simp (disch := omega) only [go_sem, Nat.reduceBEq, p0, p1, p6, pH0, true_and, List.map_append, List.map_cons, List.map_nil]); rotate_left
      · simp; omega
      · rw [hk] at sp1
        simp only [orderF, hfind] at sp1
        first | exact ⟨by omega, sp1⟩ | exact ⟨by simp, by omega, by simpa using sp1⟩
    · have hq : q = m := by omega
      have hk : m - out.length = (m - (out.length + 1)) + 1 := by omega
      rw [hk] at sp1
      simp only [orderF, find_none (f := fun p => freeR out p l) (n := m) (fun r hr => pp1 r (by omega))] at sp1
      rw [sp1]
      exact fin_pure rfl (Le.tup ⟨Le.nil 1, Le.refl _, trivial⟩)
  · have hk : m - out.length = 0 := by omega
    rw [hk] at sp1
    simp only [orderF] at sp1
    rw [sp1]
    refine fin_of (sealD_tup 2 rfl (optL_cons ?_ (optL_cons (sealD_pure _ rfl) optL_nil)))
    exact sealD_row 0 sH0 isAggT3 sizeT3 (by simp) (pureL_map (fun _ => rfl) _)
end Go.Proofs.Ytjibdljdkgedcaa
