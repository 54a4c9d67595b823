/-
  The walks of the reference's Reach and Must. No condition but bounds.
-/
import Derived.Test.YtjibdljdkgedcaaRefPair
import Derived.Test.YtjibdljdkgedcaaRefOrder
namespace Go.Proofs.Ytjibdljdkgedcaa
open Abs Facts Topo
attribute [local irreducible] awp
theorem rc_atN (row : List Nat) (x : Int) (h : row.length ≤ maxLen) {H : HM} {nx : Nat} (h0 : H 0 = some (.row 3 row.length (row.map fun x => .int .i64 (x : Nat)))) :
    RC Try.prog 31 [.osl 0 row.length, .int .i64 x] H nx (.int .i64 (atN row x)) := by
  refine PC.borrow (pc_atN row x h) rfl 2 ?_
  refine optL_cons ?_ (optL_cons (sealD_pure _ rfl) optL_nil)
  exact sealD_row 0 h0 isAggT3 sizeT3 (by simp) (pureL_map (fun _ => rfl) _)
namespace Topo
def Small (n : Nat) (out : List Nat) : Prop := out.Nodup ∧ ∀ x ∈ out, x < n
theorem small_nil (n : Nat) : Small n [] := ⟨List.nodup_nil, fun _ h => by cases h⟩
theorem small_snoc {n : Nat} {out : List Nat} (h : Small n out) {p : Nat} (hp : p < n) (hi : inL out p = false) : Small n (out ++ [p]) := by
  refine beg_step h.1 h.2 hp fun hm => ?_
  rw [(inL_mem out p).2 hm] at hi; cases hi
theorem small_len {n : Nat} {out : List Nat} (h : Small n out) : out.length ≤ n := nodup_le n out h.1 h.2
theorem addB_yes {l : List Pr} {a b : Nat} {out : List Nat} (h1 : pairB l a b = true) (h2 : inL (addB l a b out) b = false) : addB l a (b + 1) out = addB l a b out ++ [b] := by
  simp only [addB]; rw [if_pos (by rw [h1, h2]; rfl)]
theorem addB_no {l : List Pr} {a b : Nat} {out : List Nat} (h : pairB l a b = false ∨ inL (addB l a b out) b = true) : addB l a (b + 1) out = addB l a b out := by
  simp only [addB]
  rcases h with h | h
  · rw [if_neg (by rw [h]; simp)]
  · rw [if_neg (by rw [h]; simp)]
end Topo
set_option maxRecDepth 100000 in
set_option maxHeartbeats 8000000 in
theorem pc_Reach (n src : Nat) (hn : n ≤ 16) (l : List Pr) (hl : l.length ≤ maxLen) : PC Try.prog 30 [.int .i64 n, .int .i64 src, encPs l] (encN (reachR n src l)) := by
  refine PC_intro 2 (by simp only [pureD.pureL, pure_encPs, pureD, Bool.and_self]) (pure_encN _) (AC_intro [11] Try.func30 rfl (by decide +kernel) mixed (by decide +kernel) (by simp [Try.ntmps30]) ?_)
  show awp _ _ (Code.seq _ _) _ _
  repeat' (first | refine awp_assoc ?_ | ((first | refine awp_seq_reg fun K hK => ?_ | refine awp_seq_draw (by decide +kernel) fun K hK => ?_ | refine awp_reg' fun K hK => ?_ | refine awp_draw' (by decide +kernel) fun K hK => ?_); (simp (disch := omega) only [go_sem, Nat.reduceBEq, reduceCtorEq, Nat.reduceAdd, encPs])) | ((first | refine awp_seq_cond _ rfl (fun hc => ?_) (fun hc => ?_) | refine awp_cond _ rfl (fun hc => ?_) (fun hc => ?_)) <;> (first | (cases hc; done) | ((try simp only [decide_eq_true_eq, decide_eq_false_iff_not, Classical.not_not, beq_iff_eq, beq_eq_false_iff_ne, bne_iff_ne, ne_eq, Bool.not_eq_true', Bool.not_eq_false', Bool.and_eq_true, Bool.or_eq_true, Bool.and_eq_false_imp, Bool.or_eq_false_iff, Bool.not_eq_true, Bool.not_eq_false] at hc); (try (exfalso; omega))))) | refine awp_seq_block ?_ | refine awp_block ?_ | refine awp_seq_skip ?_ | refine awp_seq_ret ?_ | refine awp_seq_exit ?_ | refine awp_skip ?_ | refine awp_exit ?_ | refine awp_ret ?_ | refine seqK_n ?_ | refine seqK_e ?_ | refine seqK_r ?_ | refine blkK_n ?_ | refine blkK_e ?_ | refine blkK_o rfl ?_ | refine blkK_r ?_ | refine loopK_e ?_ | refine loopK_r ?_ | (first | refine retQ_K (by (simp (disch := omega) only [go_sem]); rfl) ?_ | refine retQ_K' (by (simp (disch := omega) only [go_sem]); rfl) ?_) | (refine hK _ ?_; clear hK K) | (refine stepG_split (fun hb => ?_) (fun hb => ?_) <;> (have hb2 := hb; try simp only [decide_eq_true_eq, decide_eq_false_iff_not, Classical.not_not, beq_iff_eq, beq_eq_false_iff_ne, bne_iff_ne, ne_eq, Bool.not_eq_true', Bool.not_eq_false', Bool.and_eq_true, Bool.or_eq_true, Bool.and_eq_false_imp, Bool.or_eq_false_iff, Bool.not_eq_true, Bool.not_eq_false] at hb2) <;> ((first | have hb3 : (_ : Bool) = _ := hb2 | have hb3 := eq_false hb2 | have hb3 := eq_true hb2); (simp (disch := omega) only [go_sem, Nat.reduceBEq, Nat.reduceBeqDiff, Nat.reduceEqDiff, reduceIte, reduceCtorEq, Nat.reduceAdd, Nat.reduceMul, Nat.reduceLeDiff, Nat.reduceLT, Int.reduceLT, Int.reduceLE, Int.reduceEq, hb, hb3, encPs]); clear hb hb3; (try (exfalso; omega)))) | (exfalso; omega))
  (refine awp_loop' (fun mz st => ∃ (k : _) (out : List Nat), mz = n - k ∧ st.t 0 = .int .i64 n ∧ st.t 1 = .int .i64 src ∧ st.t 2 = encPs l ∧ st.t 7 = .osl 0 out.length ∧ st.t 8 = .int .i64 k ∧ st.H 0 = some (.row 3 out.length (out.map fun x => .int .i64 (x : Nat))) ∧ (k ≤ n) ∧ (out = addS l n src k []) ∧ (Small n out)) ?_ ?_); rotate_left; (rintro mz st ⟨k, out, rfl, s0, s1, s2, s7, s8, sH0, sp0, sp1, sp2⟩); rotate_left
  · (refine ⟨_, 0, [], rfl, ?_⟩); (simp (disch := omega) only [go_sem, Nat.reduceBEq, true_and, Int.natCast_zero, List.map_nil, encPs])
    exact ⟨rfl, small_nil n⟩
  have hlen := small_len sp2
  repeat' (first | refine awp_assoc ?_ | ((first | refine awp_seq_reg fun K hK => ?_ | refine awp_seq_draw (by decide +kernel) fun K hK => ?_ | refine awp_reg' fun K hK => ?_ | refine awp_draw' (by decide +kernel) fun K hK => ?_); (simp (disch := omega) only [go_sem, Nat.reduceBEq, s0, s7, s8])) | ((first | refine awp_seq_cond _ rfl (fun hc => ?_) (fun hc => ?_) | refine awp_cond _ rfl (fun hc => ?_) (fun hc => ?_)) <;> (first | (cases hc; done) | ((try simp only [decide_eq_true_eq, decide_eq_false_iff_not] at hc); (try (exfalso; omega))))) | refine awp_seq_block ?_ | refine awp_block ?_ | refine awp_seq_skip ?_ | refine awp_seq_ret ?_ | refine awp_seq_exit ?_ | refine awp_skip ?_ | refine awp_exit ?_ | refine awp_ret ?_ | refine seqK_n ?_ | refine seqK_e ?_ | refine seqK_r ?_ | refine blkK_n ?_ | refine blkK_e ?_ | refine blkK_o rfl ?_ | refine blkK_r ?_ | refine loopK_e ?_ | refine loopK_r ?_ | (first | refine retQ_K (by (simp (disch := omega) only [go_sem]); rfl) ?_ | refine retQ_K' (by (simp (disch := omega) only [go_sem]); rfl) ?_) | (refine hK _ ?_; clear hK K) | (refine stepG_split (fun hb => ?_) (fun hb => ?_) <;> (have hb2 := hb; try simp only [decide_eq_true_eq, decide_eq_false_iff_not, Classical.not_not, beq_iff_eq, beq_eq_false_iff_ne, bne_iff_ne, ne_eq, Bool.not_eq_true', Bool.not_eq_false', Bool.and_eq_true, Bool.or_eq_true, Bool.and_eq_false_imp, Bool.or_eq_false_iff, Bool.not_eq_true, Bool.not_eq_false] at hb2) <;> ((first | have hb3 : (_ : Bool) = _ := hb2 | have hb3 := eq_false hb2 | have hb3 := eq_true hb2); (simp (disch := omega) only [go_sem, Nat.reduceBEq, Nat.reduceBeqDiff, Nat.reduceEqDiff, reduceIte, reduceCtorEq, Nat.reduceAdd, Nat.reduceMul, Nat.reduceLeDiff, Nat.reduceLT, Int.reduceLT, Int.reduceLE, Int.reduceEq, hb, hb3, s0, s1, s2, s7, s8, sH0, encPs]); clear hb hb3; (try (exfalso; omega)))) | (exfalso; omega))
  · (refine awp_loop' (fun mz st => ∃ (a : _) (o : List Nat), mz = n - a ∧ st.t 0 = .int .i64 n ∧ st.t 1 = .int .i64 src ∧ st.t 2 = encPs l ∧ st.t 7 = .osl 0 o.length ∧ st.t 8 = .int .i64 k ∧ st.t 9 = .int .i64 a ∧ st.H 0 = some (.row 3 o.length (o.map fun x => .int .i64 (x : Nat))) ∧ (a ≤ n) ∧ (o = addA l n src a out) ∧ (Small n o)) ?_ ?_); rotate_left; (rintro mz st ⟨a, o, rfl, p0, p1, p2, p7, p8, p9, pH0, pp0, pp1, pp2⟩); rotate_left
    · (refine ⟨_, 0, out, rfl, ?_⟩); (simp (disch := omega) only [go_sem, Nat.reduceBEq, s0, s1, s2, s7, s8, sH0, true_and, Int.natCast_zero, encPs])
      exact ⟨rfl, sp2⟩
    have holen := small_len pp2
    have hat := fun {H : HM} {nx : Nat} (x : Int) (h0 : H 0 = some (.row 3 o.length (o.map fun x => .int .i64 (x : Nat)))) => rc_atN o x (nx := nx) (by unfold maxLen; omega) h0
    repeat' (first | refine awp_assoc ?_ | ((first | refine awp_seq_reg fun K hK => ?_ | refine awp_seq_draw (by decide +kernel) fun K hK => ?_ | refine awp_reg' fun K hK => ?_ | refine awp_draw' (by decide +kernel) fun K hK => ?_); (simp (disch := omega) only [go_sem, Nat.reduceBEq, p0, p1, p8, p9])) | ((first | refine awp_seq_cond _ rfl (fun hc => ?_) (fun hc => ?_) | refine awp_cond _ rfl (fun hc => ?_) (fun hc => ?_)) <;> (first | (cases hc; done) | ((try simp only [decide_eq_true_eq, decide_eq_false_iff_not] at hc); (try (exfalso; omega))))) | refine awp_seq_block ?_ | refine awp_block ?_ | refine awp_seq_skip ?_ | refine awp_seq_ret ?_ | refine awp_seq_exit ?_ | refine awp_skip ?_ | refine awp_exit ?_ | refine awp_ret ?_ | refine seqK_n ?_ | refine seqK_e ?_ | refine seqK_r ?_ | refine blkK_n ?_ | refine blkK_e ?_ | refine blkK_o rfl ?_ | refine blkK_r ?_ | refine loopK_e ?_ | refine loopK_r ?_ | (first | refine retQ_K (by (simp (disch := omega) only [go_sem]); rfl) ?_ | refine retQ_K' (by (simp (disch := omega) only [go_sem]); rfl) ?_) | (refine hK _ ?_; clear hK K) | ((first | refine callW_rc (hat a pH0) ?_ | refine callD_rc (hat a pH0) ?_); (simp (disch := omega) only [go_sem, Nat.reduceBEq])) | (refine stepG_split (fun hb => ?_) (fun hb => ?_) <;> (have hb2 := hb; try simp only [decide_eq_true_eq, decide_eq_false_iff_not, Classical.not_not] at hb2) <;> ((first | have hb3 : (_ : Bool) = _ := hb2 | have hb3 := eq_false hb2 | have hb3 := eq_true hb2); (simp (disch := omega) only [go_sem, Nat.reduceBEq, hb3, p7, p9]); clear hb hb3; (try (exfalso; omega)))) | (exfalso; omega))
    · have hin : inL o a = false := (atN_neg o a).1 (by assumption)
      (refine Exists.intro _ (And.intro ?_ ⟨a + 1, o, rfl, ?_⟩)); rotate_left; (simp (disch := omega) only [go_sem, Nat.reduceBEq, p0, p1, p2, p7, p8, p9, pH0, true_and, Int.natCast_add, Int.natCast_one]); rotate_left
      · omega
      · refine ⟨by omega, ?_, pp2⟩
        simp only [addA]; rw [if_pos ⟨by omega, by rw [← pp1]; exact hin⟩]; exact pp1
    rotate_left 2
    · have ha : a = n := by omega
      subst ha
      (refine Exists.intro _ (And.intro ?_ ⟨k + 1, o, rfl, ?_⟩)); rotate_left; (simp (disch := omega) only [go_sem, Nat.reduceBEq, p0, p1, p2, p7, p8, pH0, true_and, Int.natCast_add, Int.natCast_one]); rotate_left
      · omega
      · refine ⟨by omega, ?_, pp2⟩
        rw [pp1, sp1]; rfl
    all_goals
      have hc2 : ¬ (a ≠ src ∧ inL (addA l n src a out) a = false) := by
        rintro ⟨h1, h2⟩
        rw [← pp1] at h2
        have := (atN_neg o a).2 h2
        omega
      (refine awp_loop' (fun mz st => ∃ (b : _) (z : List Nat), mz = n - b ∧ st.t 0 = .int .i64 n ∧ st.t 1 = .int .i64 src ∧ st.t 2 = encPs l ∧ st.t 7 = .osl 0 z.length ∧ st.t 8 = .int .i64 k ∧ st.t 9 = .int .i64 a ∧ st.t 10 = .int .i64 b ∧ st.H 0 = some (.row 3 z.length (z.map fun x => .int .i64 (x : Nat))) ∧ (b ≤ n) ∧ (z = addB l a b o) ∧ (Small n z)) ?_ ?_); rotate_left; (rintro mz st ⟨b, z, rfl, q0, q1, q2, q7, q8, q9, q10, qH0, qp0, qp1, qp2⟩); rotate_left
      · (refine ⟨_, 0, o, rfl, ?_⟩); (simp (disch := omega) only [go_sem, Nat.reduceBEq, p0, p1, p2, p7, p8, p9, pH0, true_and, Int.natCast_zero, encPs])
        exact ⟨rfl, pp2⟩
      have hzlen := small_len qp2
      have hatz := fun {H : HM} {nx : Nat} (x : Int) (h0 : H 0 = some (.row 3 z.length (z.map fun x => .int .i64 (x : Nat)))) => rc_atN z x (nx := nx) (by unfold maxLen; omega) h0
      repeat' (first | refine awp_assoc ?_ | ((first | refine awp_seq_reg fun K hK => ?_ | refine awp_seq_draw (by decide +kernel) fun K hK => ?_ | refine awp_reg' fun K hK => ?_ | refine awp_draw' (by decide +kernel) fun K hK => ?_); (simp (disch := omega) only [go_sem, Nat.reduceBEq, reduceCtorEq, Nat.reduceAdd, Nat.reduceMul, Nat.reduceLeDiff, Nat.reduceLT, q0, q2, q7, q9, q10, qH0, encPs])) | ((first | refine awp_seq_cond _ rfl (fun hc => ?_) (fun hc => ?_) | refine awp_cond _ rfl (fun hc => ?_) (fun hc => ?_)) <;> (first | (cases hc; done) | ((try simp only [decide_eq_true_eq, decide_eq_false_iff_not] at hc); (try (exfalso; omega))))) | refine awp_seq_block ?_ | refine awp_block ?_ | refine awp_seq_skip ?_ | refine awp_seq_ret ?_ | refine awp_seq_exit ?_ | refine awp_skip ?_ | refine awp_exit ?_ | refine awp_ret ?_ | refine seqK_n ?_ | refine seqK_e ?_ | refine seqK_r ?_ | refine blkK_n ?_ | refine blkK_e ?_ | refine blkK_o rfl ?_ | refine blkK_r ?_ | refine loopK_e ?_ | refine loopK_r ?_ | (first | refine retQ_K (by (simp (disch := omega) only [go_sem]); rfl) ?_ | refine retQ_K' (by (simp (disch := omega) only [go_sem]); rfl) ?_) | (refine hK _ ?_; clear hK K) | ((first | refine callW_rc (hatz b qH0) ?_ | refine callD_rc (hatz b qH0) ?_); (simp (disch := omega) only [go_sem, Nat.reduceBEq])) | ((first | refine callW_pc (pc_pair l _ _ hl) ?_ | refine callD_pc (pc_pair l _ _ hl) ?_); (simp (disch := omega) only [go_sem, Nat.reduceBEq])) | (refine stepG_split (fun hb => ?_) (fun hb => ?_) <;> (have hb2 := hb; try simp only [decide_eq_true_eq, decide_eq_false_iff_not, Classical.not_not, beq_iff_eq, beq_eq_false_iff_ne, bne_iff_ne, ne_eq, Bool.not_eq_true', Bool.not_eq_false', Bool.and_eq_true, Bool.or_eq_true, Bool.and_eq_false_imp, Bool.or_eq_false_iff, Bool.not_eq_true, Bool.not_eq_false] at hb2) <;> ((first | have hb3 : (_ : Bool) = _ := hb2 | have hb3 := eq_false hb2 | have hb3 := eq_true hb2); (simp (disch := omega) only [go_sem, Nat.reduceBEq, hb, q7, q10]); clear hb hb3; (try (exfalso; omega)))) | (exfalso; omega))
      · have hin : inL z b = false := (atN_neg z b).1 (by assumption)
        (refine Exists.intro _ (And.intro ?_ ⟨b + 1, z ++ [b], rfl, ?_⟩)); rotate_left; (simp (disch := omega) only [go_sem, Nat.reduceBEq, q0, q1, q2, q7, q8, q9, q10, qH0, true_and, Int.natCast_add, Int.natCast_one, List.map_append, List.map_cons, List.map_nil]); rotate_left
        · omega
        · refine ⟨by omega, ?_, small_snoc qp2 (by omega) hin⟩
          rw [addB_yes (by assumption) (by rw [← qp1]; exact hin), ← qp1]
      · have hin : inL z b = true := by
          cases h : inL z b with
          | true => rfl
          | false => have := (atN_neg z b).2 h; omega
        (refine Exists.intro _ (And.intro ?_ ⟨b + 1, z, rfl, ?_⟩)); rotate_left; (simp (disch := omega) only [go_sem, Nat.reduceBEq, q0, q1, q2, q7, q8, q9, q10, qH0, true_and, Int.natCast_add, Int.natCast_one]); rotate_left
        · omega
        · exact ⟨by omega, by rw [addB_no (.inr (by rw [← qp1]; exact hin))]; exact qp1, qp2⟩
      · (refine Exists.intro _ (And.intro ?_ ⟨b + 1, z, rfl, ?_⟩)); rotate_left; (simp (disch := omega) only [go_sem, Nat.reduceBEq, q0, q1, q2, q7, q8, q9, q10, qH0, true_and, Int.natCast_add, Int.natCast_one]); rotate_left
        · omega
        · exact ⟨by omega, by rw [addB_no (.inl (by assumption))]; exact qp1, qp2⟩
      · have hb : b = n := by omega
        subst hb
        (refine Exists.intro _ (And.intro ?_ ⟨a + 1, z, rfl, ?_⟩)); rotate_left; (simp (disch := omega) only [go_sem, Nat.reduceBEq, q0, q1, q2, q7, q8, q9, qH0, true_and, Int.natCast_add, Int.natCast_one]); rotate_left
        · omega
        · refine ⟨by omega, ?_, qp2⟩
          simp only [addA]; rw [if_neg hc2, qp1, pp1]
  · have hk : k = n := by omega
    subst hk
    have : out = reachR k src l := sp1
    rw [← this]
    exact fin_of (sealD_row 0 sH0 isAggT3 sizeT3 (by simp) (pureL_map (fun _ => rfl) _))
end Go.Proofs.Ytjibdljdkgedcaa
