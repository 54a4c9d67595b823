/-
  The walks of the reference's closing and Circle. No condition but bounds.
-/
import Derived.Test.YtjibdljdkgedcaaRefReach
import Derived.Test.YtjibdljdkgedcaaCycleLaw
namespace Go.Proofs.Ytjibdljdkgedcaa
open Abs Facts Topo
attribute [local irreducible] awp
namespace Topo
def stepC (l : List Pr) (n k : Nat) (row : List Nat) (p : Nat) : List Nat := if (pairB l (row.getLastD 0 : Nat) (p : Nat) && !inL row p) = true then closingR l n k (row ++ [p]) else []
theorem closingR_succ (l : List Pr) (n k : Nat) (row : List Nat) : closingR l n (k + 1) row = firstNE n (stepC l n k row) := rfl
theorem closing_len {l : List Pr} {n : Nat} : ∀ (k : Nat) (row : List Nat), (closingR l n k row).length ≤ row.length + k
  | 0, row => by simp only [closingR]; split <;> simp
  | k + 1, row => by
    rw [closingR_succ]
    by_cases h : firstNE n (stepC l n k row) = []
    · rw [h]; simp
    · obtain ⟨p, _, _, h3⟩ := firstNE_ex h
      rw [h3]
      unfold stepC
      split
      · have := closing_len (l := l) (n := n) k (row ++ [p])
        simp at this; omega
      · simp
end Topo
theorem inL_true {row : List Nat} {x : Nat} (h : ¬ atN row x < 0) : inL row x = true := by
  cases hi : inL row x with
  | true => rfl
  | false => have := (atN_neg row x).2 hi; omega
set_option maxRecDepth 100000 in
set_option maxHeartbeats 8000000 in
theorem pc_closing (n len : Nat) (hn : n ≤ 16) (l : List Pr) (hl : l.length ≤ maxLen) : ∀ (k : Nat) (row : List Nat), row ≠ [] → row.length + k = len → len ≤ 16 →
    PC Try.prog 29 [.int .i64 n, .int .i64 len, encN row, encPs l] (encN (closingR l n k row)) := by
  intro k
  induction k with
  | zero =>
    intro row hr hk hlen
    refine PC_intro 1 (by simp only [pureD.pureL, pure_encPs, pure_encN, pureD, Bool.and_self]) (pure_encN _) (AC_intro [46, 2000051] Try.func29 rfl (by decide +kernel) mixed (by decide +kernel) (by simp [Try.ntmps29]) ?_)
    show awp _ _ (Code.seq _ _) _ _
    have hlast : row[((row.length : Int) - 1).toNat]? = some (row.getLastD 0) := by
      obtain ⟨h1, h2⟩ := last_get hr
      rw [show ((row.length : Int) - 1).toNat = row.length - 1 by omega, List.getElem?_eq_getElem h1, h2]
    have hhead : row[0]? = some (row.headD 0) := by
      obtain ⟨h1, h2⟩ := head_get hr
      rw [List.getElem?_eq_getElem h1, h2]
    have hpos : 0 < row.length := List.length_pos_iff.2 hr
    have e1 : row[((row.length : Int) - 1).toNat]'(by omega) = row.getLastD 0 := by
      rw [List.getElem?_eq_getElem (by omega), Option.some.injEq] at hlast; exact hlast
    have e2 : row[Int.toNat 0]'(by simpa using hpos) = row.headD 0 := by
      rw [List.getElem?_eq_getElem hpos, Option.some.injEq] at hhead; exact hhead
    repeat' (first | refine awp_assoc ?_ | ((first | refine awp_seq_reg fun K hK => ?_ | refine awp_seq_draw (by decide +kernel) fun K hK => ?_ | refine awp_reg' fun K hK => ?_ | refine awp_draw' (by decide +kernel) fun K hK => ?_); (simp (disch := omega) only [go_sem, Nat.reduceBEq, reduceCtorEq, Nat.reduceAdd, encN, encPs])) | ((first | refine awp_seq_cond _ rfl (fun hc => ?_) (fun hc => ?_) | refine awp_cond _ rfl (fun hc => ?_) (fun hc => ?_)) <;> (first | (cases hc; done) | ((try simp only [decide_eq_true_eq, decide_eq_false_iff_not] at hc); (try (exfalso; omega))))) | refine awp_seq_block ?_ | refine awp_block ?_ | refine awp_seq_skip ?_ | refine awp_seq_ret ?_ | refine awp_seq_exit ?_ | refine awp_skip ?_ | refine awp_exit ?_ | refine awp_ret ?_ | refine seqK_n ?_ | refine seqK_e ?_ | refine seqK_r ?_ | refine blkK_n ?_ | refine blkK_e ?_ | refine blkK_o rfl ?_ | refine blkK_r ?_ | refine loopK_e ?_ | refine loopK_r ?_ | (first | refine retQ_K (by (simp (disch := omega) only [go_sem]); rfl) ?_ | refine retQ_K' (by (simp (disch := omega) only [go_sem]); rfl) ?_) | (refine hK _ ?_; clear hK K) | ((first | refine callW_pc (pc_pair l _ _ hl) ?_ | refine callD_pc (pc_pair l _ _ hl) ?_); (simp (disch := omega) only [go_sem])) | (refine stepG_split (fun hb => ?_) (fun hb => ?_) <;> (have hb2 := hb; try simp only [decide_eq_true_eq, decide_eq_false_iff_not, Classical.not_not, beq_iff_eq, beq_eq_false_iff_ne, bne_iff_ne, ne_eq, Bool.not_eq_true', Bool.not_eq_false', Bool.and_eq_true, Bool.or_eq_true, Bool.and_eq_false_imp, Bool.or_eq_false_iff, Bool.not_eq_true, Bool.not_eq_false] at hb2) <;> ((first | have hb3 : (_ : Bool) = _ := hb2 | have hb3 := eq_false hb2 | have hb3 := eq_true hb2); (simp (disch := omega) only [go_sem, Nat.reduceBEq, Nat.reduceBeqDiff, Nat.reduceEqDiff, reduceIte, reduceCtorEq, Nat.reduceAdd, Nat.reduceMul, Nat.reduceLeDiff, Nat.reduceLT, Int.reduceLT, Int.reduceLE, Int.reduceEq, hb, hb3, encN, encPs, hlast, hhead]); clear hb hb3; (try (exfalso; omega)))) | (exfalso; omega))
    · have hp : pairB l (row.getLastD 0 : Nat) (row.headD 0 : Nat) = true := by rw [← e1, ← e2]; assumption
      have : closingR l n 0 row = row := by simp only [closingR]; rw [if_pos hp]
      rw [this]
      exact fin_pure (pure_encN row) (Le.refl _)
    · have hp : ¬ pairB l (row.getLastD 0 : Nat) (row.headD 0 : Nat) = true := by rw [← e1, ← e2, Bool.not_eq_true]; assumption
      have : closingR l n 0 row = [] := by simp only [closingR]; rw [if_neg hp]
      rw [this]
      exact fin_pure rfl (Le.nil 1)
  | succ k ih =>
    intro row hr hk hlen
    refine PC_intro 1 (by simp only [pureD.pureL, pure_encPs, pure_encN, pureD, Bool.and_self]) (pure_encN _) (AC_intro [46, 2000051] Try.func29 rfl (by decide +kernel) mixed (by decide +kernel) (by simp [Try.ntmps29]) ?_)
    show awp _ _ (Code.seq _ _) _ _
    have hlast : row[((row.length : Int) - 1).toNat]? = some (row.getLastD 0) := by
      obtain ⟨h1, h2⟩ := last_get hr
      rw [show ((row.length : Int) - 1).toNat = row.length - 1 by omega, List.getElem?_eq_getElem h1, h2]
    have hpos : 0 < row.length := List.length_pos_iff.2 hr
    rw [closingR_succ]
    repeat' (first | refine awp_assoc ?_ | ((first | refine awp_seq_reg fun K hK => ?_ | refine awp_seq_draw (by decide +kernel) fun K hK => ?_ | refine awp_reg' fun K hK => ?_ | refine awp_draw' (by decide +kernel) fun K hK => ?_); (simp (disch := omega) only [go_sem, Nat.reduceBEq, reduceCtorEq, Nat.reduceAdd, encN, encPs])) | ((first | refine awp_seq_cond _ rfl (fun hc => ?_) (fun hc => ?_) | refine awp_cond _ rfl (fun hc => ?_) (fun hc => ?_)) <;> (first | (cases hc; done) | ((try simp only [decide_eq_true_eq, decide_eq_false_iff_not] at hc); (try (exfalso; omega))))) | refine awp_seq_block ?_ | refine awp_block ?_ | refine awp_seq_skip ?_ | refine awp_seq_ret ?_ | refine awp_seq_exit ?_ | refine awp_skip ?_ | refine awp_exit ?_ | refine awp_ret ?_ | refine seqK_n ?_ | refine seqK_e ?_ | refine seqK_r ?_ | refine blkK_n ?_ | refine blkK_e ?_ | refine blkK_o rfl ?_ | refine blkK_r ?_ | refine loopK_e ?_ | refine loopK_r ?_ | (first | refine retQ_K (by (simp (disch := omega) only [go_sem]); rfl) ?_ | refine retQ_K' (by (simp (disch := omega) only [go_sem]); rfl) ?_) | (refine hK _ ?_; clear hK K) | (refine stepG_split (fun hb => ?_) (fun hb => ?_) <;> (have hb2 := hb; try simp only [decide_eq_true_eq, decide_eq_false_iff_not, Classical.not_not, beq_iff_eq, beq_eq_false_iff_ne, bne_iff_ne, ne_eq, Bool.not_eq_true', Bool.not_eq_false', Bool.and_eq_true, Bool.or_eq_true, Bool.and_eq_false_imp, Bool.or_eq_false_iff, Bool.not_eq_true, Bool.not_eq_false] at hb2) <;> ((first | have hb3 : (_ : Bool) = _ := hb2 | have hb3 := eq_false hb2 | have hb3 := eq_true hb2); (simp (disch := omega) only [go_sem, Nat.reduceBEq, Nat.reduceBeqDiff, Nat.reduceEqDiff, reduceIte, reduceCtorEq, Nat.reduceAdd, Nat.reduceMul, Nat.reduceLeDiff, Nat.reduceLT, Int.reduceLT, Int.reduceLE, Int.reduceEq, hb, hb3, encN, encPs, hlast]); clear hb hb3; (try (exfalso; omega)))) | (exfalso; omega))
    (refine awp_loop' (fun mz st => ∃ (p : _), mz = n - p ∧ st.t 0 = .int .i64 n ∧ st.t 1 = .int .i64 len ∧ st.t 2 = encN row ∧ st.t 3 = encPs l ∧ st.t 9 = .int .i64 (row.getLastD 0 : Nat) ∧ st.t 10 = .int .i64 p ∧ (p ≤ n) ∧ (∀ q, q < p → stepC l n k row q = [])) ?_ ?_); rotate_left; (rintro mz st ⟨p, rfl, s0, s1, s2, s3, s9, s10, sp0, sp1⟩); rotate_left
    · (refine ⟨_, 0, rfl, ?_⟩); (simp (disch := omega) only [go_sem, Nat.reduceBEq, true_and, Int.natCast_zero, encN, encPs])
      refine ⟨?_, fun q hq => by omega⟩
      rw [List.getElem?_eq_getElem (by omega), Option.some.injEq] at hlast
      exact congrArg _ hlast
    have hih := ih (row ++ [p]) (by simp) (by simp; omega) hlen
    have hcl := closing_len (l := l) (n := n) k (row ++ [p])
    simp only [List.length_append, List.length_cons, List.length_nil] at hcl
    have hstep : stepC l n k row p = if (pairB l (row.getLastD 0 : Nat) (p : Nat) && !inL row p) = true then closingR l n k (row ++ [p]) else [] := rfl
    generalize closingR l n k (row ++ [p]) = c at *
    simp only [encN, encPs, List.map_append, List.map_cons, List.map_nil] at hih
    have hat := fun x => pc_atN row x (by unfold maxLen; omega)
    simp only [encN] at hat
    have next : stepC l n k row p = [] → ∀ q, q < p + 1 → stepC l n k row q = [] := fun h q hq => by
      by_cases e : q = p
      · subst e; exact h
      · exact sp1 q (by omega)
    repeat' (first | refine awp_assoc ?_ | ((first | refine awp_seq_reg fun K hK => ?_ | refine awp_seq_draw (by decide +kernel) fun K hK => ?_ | refine awp_reg' fun K hK => ?_ | refine awp_draw' (by decide +kernel) fun K hK => ?_); (simp (disch := omega) only [go_sem, Nat.reduceBEq, reduceCtorEq, Nat.reduceAdd, Nat.reduceMul, Nat.reduceLeDiff, Nat.reduceLT, s0, s1, s2, s3, s9, s10, encN, encPs])) | ((first | refine awp_seq_cond _ rfl (fun hc => ?_) (fun hc => ?_) | refine awp_cond _ rfl (fun hc => ?_) (fun hc => ?_)) <;> (first | (cases hc; done) | ((try simp only [decide_eq_true_eq, decide_eq_false_iff_not] at hc); (try (exfalso; omega))))) | refine awp_seq_block ?_ | refine awp_block ?_ | refine awp_seq_skip ?_ | refine awp_seq_ret ?_ | refine awp_seq_exit ?_ | refine awp_skip ?_ | refine awp_exit ?_ | refine awp_ret ?_ | refine seqK_n ?_ | refine seqK_e ?_ | refine seqK_r ?_ | refine blkK_n ?_ | refine blkK_e ?_ | refine blkK_o rfl ?_ | refine blkK_r ?_ | refine loopK_e ?_ | refine loopK_r ?_ | (first | refine retQ_K (by (simp (disch := omega) only [go_sem]); rfl) ?_ | refine retQ_K' (by (simp (disch := omega) only [go_sem]); rfl) ?_) | (refine hK _ ?_; clear hK K) | ((first | refine callW_pc (pc_pair l _ _ hl) ?_ | refine callD_pc (pc_pair l _ _ hl) ?_); (simp (disch := omega) only [go_sem, Nat.reduceBEq])) | ((first | refine callW_pc (hat p) ?_ | refine callD_pc (hat p) ?_); (simp (disch := omega) only [go_sem, Nat.reduceBEq])) | ((first | refine callW_pc (hih) ?_ | refine callD_pc (hih) ?_); (simp (disch := omega) only [go_sem, Nat.reduceBEq])) | (refine stepG_split (fun hb => ?_) (fun hb => ?_) <;> (have hb2 := hb; try simp only [decide_eq_true_eq, decide_eq_false_iff_not, Classical.not_not, beq_iff_eq, beq_eq_false_iff_ne, bne_iff_ne, ne_eq, Bool.not_eq_true', Bool.not_eq_false', Bool.and_eq_true, Bool.or_eq_true, Bool.and_eq_false_imp, Bool.or_eq_false_iff, Bool.not_eq_true, Bool.not_eq_false] at hb2) <;> ((first | have hb3 : (_ : Bool) = _ := hb2 | have hb3 := eq_false hb2 | have hb3 := eq_true hb2); (simp (disch := omega) only [go_sem, Nat.reduceBEq, hb, s2, s10, encN]); clear hb hb3; (try (exfalso; omega)))) | (exfalso; omega))
    · have hs : stepC l n k row p = c := by
        rw [hstep, ‹pairB l _ _ = true›, (atN_neg row p).1 (by assumption)]; rfl
      have hne : c ≠ [] := by
        intro e; subst e; simp at *
      rw [firstNE_some (by omega) (by rw [hs]; exact hne) sp1, hs]
      exact fin_pure (pure_encN c) (Le.refl _)
    · have hs : stepC l n k row p = [] := by
        rw [hstep, ‹pairB l _ _ = true›, (atN_neg row p).1 (by assumption)]
        cases c with
        | nil => rfl
        | cons a b => simp at *
      (refine Exists.intro _ (And.intro ?_ ⟨p + 1, rfl, ?_⟩)); rotate_left; (simp (disch := omega) only [go_sem, Nat.reduceBEq, s0, s1, s2, s3, s9, s10, true_and, Int.natCast_add, Int.natCast_one]); rotate_left
      · omega
      · exact ⟨by omega, next hs⟩
    · have hs : stepC l n k row p = [] := by
        rw [hstep, inL_true (by assumption), Bool.not_true, Bool.and_false]; rfl
      (refine Exists.intro _ (And.intro ?_ ⟨p + 1, rfl, ?_⟩)); rotate_left; (simp (disch := omega) only [go_sem, Nat.reduceBEq, s0, s1, s2, s3, s9, s10, true_and, Int.natCast_add, Int.natCast_one]); rotate_left
      · omega
      · exact ⟨by omega, next hs⟩
    · have hs : stepC l n k row p = [] := by
        rw [hstep, ‹pairB l _ _ = false›]; rfl
      (refine Exists.intro _ (And.intro ?_ ⟨p + 1, rfl, ?_⟩)); rotate_left; (simp (disch := omega) only [go_sem, Nat.reduceBEq, s0, s1, s2, s3, s9, s10, true_and, Int.natCast_add, Int.natCast_one]); rotate_left
      · omega
      · exact ⟨by omega, next hs⟩
    · rw [firstNE_none fun q hq => sp1 q (by omega)]
      exact fin_pure rfl (Le.nil 1)
set_option maxRecDepth 100000 in
set_option maxHeartbeats 8000000 in
theorem pc_Circle (n : Nat) (hn : n ≤ 16) (l : List Pr) (hl : l.length ≤ maxLen) : PC Try.prog 16 [.int .i64 n, encPs l] (encN (circleR n l)) := by
  refine PC_intro 1 (by simp only [pureD.pureL, pure_encPs, pureD, Bool.and_self]) (pure_encN _) (AC_intro [] Try.func16 rfl (by decide +kernel) mixed (by decide +kernel) (by simp [Try.ntmps16]) ?_)
  show awp _ _ (Code.seq _ _) _ _
  unfold circleR
  repeat' (first | refine awp_assoc ?_ | ((first | refine awp_seq_reg fun K hK => ?_ | refine awp_seq_draw (by decide +kernel) fun K hK => ?_ | refine awp_reg' fun K hK => ?_ | refine awp_draw' (by decide +kernel) fun K hK => ?_); (simp (disch := omega) only [go_sem, encPs])) | ((first | refine awp_seq_cond _ rfl (fun hc => ?_) (fun hc => ?_) | refine awp_cond _ rfl (fun hc => ?_) (fun hc => ?_)) <;> (first | (cases hc; done) | ((try simp only [decide_eq_true_eq, decide_eq_false_iff_not, Classical.not_not, beq_iff_eq, beq_eq_false_iff_ne, bne_iff_ne, ne_eq, Bool.not_eq_true', Bool.not_eq_false', Bool.and_eq_true, Bool.or_eq_true, Bool.and_eq_false_imp, Bool.or_eq_false_iff, Bool.not_eq_true, Bool.not_eq_false] at hc); (try (exfalso; omega))))) | refine awp_seq_block ?_ | refine awp_block ?_ | refine awp_seq_skip ?_ | refine awp_seq_ret ?_ | refine awp_seq_exit ?_ | refine awp_skip ?_ | refine awp_exit ?_ | refine awp_ret ?_ | refine seqK_n ?_ | refine seqK_e ?_ | refine seqK_r ?_ | refine blkK_n ?_ | refine blkK_e ?_ | refine blkK_o rfl ?_ | refine blkK_r ?_ | refine loopK_e ?_ | refine loopK_r ?_ | (first | refine retQ_K (by (simp (disch := omega) only [go_sem]); rfl) ?_ | refine retQ_K' (by (simp (disch := omega) only [go_sem]); rfl) ?_) | (refine hK _ ?_; clear hK K) | (refine stepG_split (fun hb => ?_) (fun hb => ?_) <;> (have hb2 := hb; try simp only [decide_eq_true_eq, decide_eq_false_iff_not, Classical.not_not, beq_iff_eq, beq_eq_false_iff_ne, bne_iff_ne, ne_eq, Bool.not_eq_true', Bool.not_eq_false', Bool.and_eq_true, Bool.or_eq_true, Bool.and_eq_false_imp, Bool.or_eq_false_iff, Bool.not_eq_true, Bool.not_eq_false] at hb2) <;> ((first | have hb3 : (_ : Bool) = _ := hb2 | have hb3 := eq_false hb2 | have hb3 := eq_true hb2); (simp (disch := omega) only [go_sem, Nat.reduceBEq, Nat.reduceBeqDiff, Nat.reduceEqDiff, reduceIte, reduceCtorEq, Nat.reduceAdd, Nat.reduceMul, Nat.reduceLeDiff, Nat.reduceLT, Int.reduceLT, Int.reduceLE, Int.reduceEq, hb, hb3, encPs]); clear hb hb3; (try (exfalso; omega)))) | (exfalso; omega))
  (refine awp_loop' (fun mz st => ∃ (len : _), mz = n - len ∧ st.t 0 = .int .i64 n ∧ st.t 1 = encPs l ∧ st.t 5 = .int .i64 (len + 1 : Nat) ∧ (len ≤ n) ∧ (∀ q, q < len → firstNE n (fun k => closingR l n q [k]) = [])) ?_ ?_); rotate_left; (rintro mz st ⟨len, rfl, s0, s1, s5, sp0, sp1⟩); rotate_left
  · (refine ⟨_, 0, rfl, ?_⟩); (simp (disch := omega) only [go_sem, Nat.reduceBEq, true_and, Int.natCast_one, encPs])
    exact fun q hq => by omega
  repeat' (first | refine awp_assoc ?_ | ((first | refine awp_seq_reg fun K hK => ?_ | refine awp_seq_draw (by decide +kernel) fun K hK => ?_ | refine awp_reg' fun K hK => ?_ | refine awp_draw' (by decide +kernel) fun K hK => ?_); (simp (disch := omega) only [go_sem, Nat.reduceBEq, s0, s5])) | ((first | refine awp_seq_cond _ rfl (fun hc => ?_) (fun hc => ?_) | refine awp_cond _ rfl (fun hc => ?_) (fun hc => ?_)) <;> (first | (cases hc; done) | ((try simp only [decide_eq_true_eq, decide_eq_false_iff_not] at hc); (try (exfalso; omega))))) | refine awp_seq_block ?_ | refine awp_block ?_ | refine awp_seq_skip ?_ | refine awp_seq_ret ?_ | refine awp_seq_exit ?_ | refine awp_skip ?_ | refine awp_exit ?_ | refine awp_ret ?_ | refine seqK_n ?_ | refine seqK_e ?_ | refine seqK_r ?_ | refine blkK_n ?_ | refine blkK_e ?_ | refine blkK_o rfl ?_ | refine blkK_r ?_ | refine loopK_e ?_ | refine loopK_r ?_ | (first | refine retQ_K (by (simp (disch := omega) only [go_sem]); rfl) ?_ | refine retQ_K' (by (simp (disch := omega) only [go_sem]); rfl) ?_) | (refine hK _ ?_; clear hK K) | (refine stepG_split (fun hb => ?_) (fun hb => ?_) <;> (have hb2 := hb; try simp only [decide_eq_true_eq, decide_eq_false_iff_not, Classical.not_not, beq_iff_eq, beq_eq_false_iff_ne, bne_iff_ne, ne_eq, Bool.not_eq_true', Bool.not_eq_false', Bool.and_eq_true, Bool.or_eq_true, Bool.and_eq_false_imp, Bool.or_eq_false_iff, Bool.not_eq_true, Bool.not_eq_false] at hb2) <;> ((first | have hb3 : (_ : Bool) = _ := hb2 | have hb3 := eq_false hb2 | have hb3 := eq_true hb2); (simp (disch := omega) only [go_sem, Nat.reduceBEq, Nat.reduceBeqDiff, Nat.reduceEqDiff, reduceIte, reduceCtorEq, Nat.reduceAdd, Nat.reduceMul, Nat.reduceLeDiff, Nat.reduceLT, Int.reduceLT, Int.reduceLE, Int.reduceEq, hb, hb3, s0, s1, s5, encPs]); clear hb hb3; (try (exfalso; omega)))) | (exfalso; omega))
  · (refine awp_loop' (fun mz st => ∃ (k : _), mz = n - k ∧ st.t 0 = .int .i64 n ∧ st.t 1 = encPs l ∧ st.t 5 = .int .i64 (len + 1 : Nat) ∧ st.t 6 = .int .i64 k ∧ (k ≤ n) ∧ (∀ q, q < k → closingR l n len [q] = [])) ?_ ?_); rotate_left; (rintro mz st ⟨k, rfl, p0, p1, p5, p6, pp0, pp1⟩); rotate_left
    · (refine ⟨_, 0, rfl, ?_⟩); (simp (disch := omega) only [go_sem, Nat.reduceBEq, s0, s1, s5, true_and, Int.natCast_add, Int.natCast_one, Int.natCast_zero, encPs])
      exact fun q hq => by omega
    have hpc := pc_closing n (len + 1) hn l hl len [k] (by simp) (by simp; omega) (by omega)
    have hcl := closing_len (l := l) (n := n) len [k]
    simp only [List.length_cons, List.length_nil] at hcl
    simp only [encN, encPs, List.map_cons, List.map_nil] at hpc
    have next : closingR l n len [k] = [] → ∀ q, q < k + 1 → closingR l n len [q] = [] := fun h q hq => by
      by_cases e : q = k
      · subst e; exact h
      · exact pp1 q (by omega)
    have hfk : closingR l n len [k] ≠ [] → k < n → len < n → firstNE n (fun len => firstNE n fun k => closingR l n len [k]) = closingR l n len [k] := fun h hk hlen => by
      have h1 := firstNE_some (f := fun k => closingR l n len [k]) hk h pp1
      rw [firstNE_some (f := fun len => firstNE n fun k => closingR l n len [k]) (p := len) hlen (by rw [h1]; exact h) sp1, h1]
    generalize closingR l n len [k] = c at *
    repeat' (first | refine awp_assoc ?_ | ((first | refine awp_seq_reg fun K hK => ?_ | refine awp_seq_draw (by decide +kernel) fun K hK => ?_ | refine awp_reg' fun K hK => ?_ | refine awp_draw' (by decide +kernel) fun K hK => ?_); (simp (disch := omega) only [go_sem, Nat.reduceBEq, reduceCtorEq, Nat.reduceAdd, Nat.reduceLeDiff, p0, p1, p5, p6, encPs])) | ((first | refine awp_seq_cond _ rfl (fun hc => ?_) (fun hc => ?_) | refine awp_cond _ rfl (fun hc => ?_) (fun hc => ?_)) <;> (first | (cases hc; done) | ((try simp only [decide_eq_true_eq, decide_eq_false_iff_not] at hc); (try (exfalso; omega))))) | refine awp_seq_block ?_ | refine awp_block ?_ | refine awp_seq_skip ?_ | refine awp_seq_ret ?_ | refine awp_seq_exit ?_ | refine awp_skip ?_ | refine awp_exit ?_ | refine awp_ret ?_ | refine seqK_n ?_ | refine seqK_e ?_ | refine seqK_r ?_ | refine blkK_n ?_ | refine blkK_e ?_ | refine blkK_o rfl ?_ | refine blkK_r ?_ | refine loopK_e ?_ | refine loopK_r ?_ | (first | refine retQ_K (by (simp (disch := omega) only [go_sem]); rfl) ?_ | refine retQ_K' (by (simp (disch := omega) only [go_sem]); rfl) ?_) | (refine hK _ ?_; clear hK K) | ((first | refine callW_pc (PC.le (hpc) ?_ ?_) ?_ | refine callD_pc (PC.le (hpc) ?_ ?_) ?_); (focus ((first | rfl | simp only [pureD.pureL, pureD, Bool.and_self, go_sem]); done)); (focus ((repeat' (first | exact trivial | exact Le.refl _ | exact Le.rsl | exact Le.nil _ | refine ⟨?_, ?_⟩)); done)); (simp (disch := omega) only [go_sem, Nat.reduceBEq])) | (refine stepG_split (fun hb => ?_) (fun hb => ?_) <;> (have hb2 := hb; try simp only [decide_eq_true_eq, decide_eq_false_iff_not, Classical.not_not, beq_iff_eq, beq_eq_false_iff_ne, bne_iff_ne, ne_eq, Bool.not_eq_true', Bool.not_eq_false', Bool.and_eq_true, Bool.or_eq_true, Bool.and_eq_false_imp, Bool.or_eq_false_iff, Bool.not_eq_true, Bool.not_eq_false] at hb2) <;> ((first | have hb3 : (_ : Bool) = _ := hb2 | have hb3 := eq_false hb2 | have hb3 := eq_true hb2); (simp (disch := omega) only [go_sem, Nat.reduceBEq, Nat.reduceBeqDiff, Nat.reduceEqDiff, reduceIte, reduceCtorEq, Nat.reduceAdd, Nat.reduceMul, Nat.reduceLeDiff, Nat.reduceLT, Int.reduceLT, Int.reduceLE, Int.reduceEq, hb, hb3, p0, p1, p5, p6, encN, encPs]); clear hb hb3; (try (exfalso; omega)))) | (exfalso; omega))
    · have hne : c ≠ [] := by
        intro e; subst e; simp at *
      rw [hfk hne (by omega) (by omega)]
      exact fin_pure (pure_encN c) (Le.refl _)
    · have hs : c = [] := by
        cases c with
        | nil => rfl
        | cons a b => simp at *
      (refine Exists.intro _ (And.intro ?_ ⟨k + 1, rfl, ?_⟩)); rotate_left; (simp (disch := omega) only [go_sem, Nat.reduceBEq, p0, p1, p5, p6, true_and, Int.natCast_add, Int.natCast_one]); rotate_left
      · omega
      · exact ⟨by omega, next hs⟩
    · (refine Exists.intro _ (And.intro ?_ ⟨len + 1, rfl, ?_⟩)); rotate_left; (simp (disch := omega) only [go_sem, Nat.reduceBEq, p0, p1, p5, true_and, Int.natCast_add, Int.natCast_one]); rotate_left
      · omega
      · refine ⟨by omega, fun q hq => ?_⟩
        by_cases e : q = len
        · subst e; exact firstNE_none fun k hk => pp1 k (by omega)
        · exact sp1 q (by omega)
  · rw [firstNE_none fun q hq => sp1 q (by omega)]
    exact fin_pure rfl (Le.nil 1)
end Go.Proofs.Ytjibdljdkgedcaa
