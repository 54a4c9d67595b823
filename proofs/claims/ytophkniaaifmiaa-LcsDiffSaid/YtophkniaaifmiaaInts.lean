/-
  The walks of the small functions of the reference: are two lists equal. No condition but lengths that an int holds.
-/
import Derived.Test.YtophkniaaifmiaaFacts
namespace Go.Proofs.Ytophkniaaifmiaa
open Abs Facts
attribute [local irreducible] awp
theorem take_aux {α : Type} (a b : List α) (k : Nat) (hk : k < a.length) (hl : a.length = b.length) (h : a.take k = b.take k) (he : a[k] = b[k]) : a.take (k + 1) = b.take (k + 1) := by
  rw [List.take_succ_eq_append_getElem hk, List.take_succ_eq_append_getElem (by omega), h, he]
/-- Ints: are two lists of integers equal? -/
theorem pc12 (a b : List Int) (ha : a.length ≤ maxLen) (hb : b.length ≤ maxLen) : PC Try.prog 12 [encI a, encI b] (.bool (decide (a = b))) := by
  unfold maxLen at ha hb
  refine PC_intro 1 (by simp only [pureD.pureL, pure_encI, Bool.and_self]) rfl (AC_intro [] Try.func12 rfl (by decide +kernel) mixed (by decide +kernel) (by simp [Try.ntmps12]) ?_)
  show awp _ _ (Code.seq _ _) _ _
  (refine awp_seq_reg fun K hK => ?_); (simp only [go_sem]); (refine hK _ ?_); (clear hK K)
  repeat refine awp_assoc ?_
  (refine awp_seq_reg fun K hK => ?_); (simp only [go_sem, Nat.reduceBEq, ne_eq, List.length_map, beq_self_eq_true, encI]); (refine hK _ ?_); (clear hK K)
  refine awp_seq fun K hK => ?_
  (refine awp_cond _ rfl (fun hc => ?_) (fun hc => ?_)) <;> (simp only [decide_eq_true_eq, decide_eq_false_iff_not, Classical.not_not] at hc)
  · (refine awp_seq_reg fun K hK => ?_); (simp only [go_sem]); (refine hK _ ?_); (clear hK K)
    (refine awp_ret ?_); (refine Exists.intro _ (And.intro rfl ?_))
    exact fin_bool (by have : ¬ a = b := fun e => hc (by rw [e])
                       simp [this])
  refine awp_skip (hK _ ?_); clear hK K
  repeat refine awp_assoc ?_
  (refine awp_seq_reg fun K hK => ?_); (simp only [go_sem]); (refine hK _ ?_); (clear hK K)
  refine awp_seq fun K hK => ?_
  refine awp_block (awp_loop (fun n st => ∃ k : Nat, n = a.length - k ∧ k ≤ a.length ∧ st.t 0 = encI a ∧ st.t 1 = encI b ∧ st.t 5 = .int .i64 k ∧ a.take k = b.take k) a.length ?_ ?_)
  · exact ⟨0, by simp, by simp, rfl, rfl, rfl, by simp⟩
  rintro n st ⟨k, rfl, hk, h0, h1, h5, htk⟩
  repeat refine awp_assoc ?_
  (refine awp_seq_reg fun K hK => ?_); (simp only [go_sem, Nat.reduceBEq, List.length_map, beq_self_eq_true, h0, h5, encI]); (refine hK _ ?_); (clear hK K)
  refine awp_seq fun K2 hK2 => ?_
  (refine awp_cond _ rfl (fun hc => ?_) (fun hc => ?_)) <;> (simp only [decide_eq_true_eq, decide_eq_false_iff_not] at hc)
  · have hk' : k < a.length := by omega
    have hl : a.length = b.length := by omega
    refine awp_skip (hK2 _ ?_); clear hK2 K2
    repeat refine awp_assoc ?_
    refine awp_seq fun K2 hK2 => ?_
    refine awp_block ?_
    have i1 := idxD_map (fun n => D.int .i64 n) a k hk'
    have i2 := idxD_map (fun n => D.int .i64 n) b k (by omega)
    (refine awp_seq_draw (by decide +kernel) fun K hK => ?_); (simp only [go_sem, Nat.reduceBEq, reduceCtorEq, ne_eq, not_false_eq_true, Nat.reduceAdd, beq_self_eq_true, h0, h1, h5, i1, i2, encI]); (refine hK _ ?_); (clear hK K)
    (refine awp_cond _ rfl (fun hc => ?_) (fun hc => ?_)) <;> (simp only [decide_eq_true_eq, decide_eq_false_iff_not, Classical.not_not] at hc)
    · (refine awp_seq_reg fun K hK => ?_); (simp only [go_sem]); (refine hK _ ?_); (clear hK K)
      (refine awp_ret ?_); (refine Exists.intro _ (And.intro rfl ?_))
      exact fin_bool (by have : ¬ a = b := fun e => hc (by subst e; rfl)
                         simp [this])
    refine awp_skip (hK2 _ ?_); clear hK2 K2
    have hw : IntKind.i64.wrap ((k : Int) + 1) = ((k + 1 : Nat) : Int) := by rw [wrapI (by omega)]; omega
    (refine awp_reg ?_); (simp only [go_sem, Nat.reduceBEq, beq_self_eq_true, h5, hw])
    exact ⟨a.length - (k + 1), by omega, k + 1, rfl, by omega, h0, h1, rfl, take_aux a b k hk' hl htk hc⟩
  · refine awp_exit ?_
    show K _
    refine hK _ ?_
    (refine awp_seq_reg fun K hK => ?_); (simp only [go_sem]); (refine hK _ ?_); (clear hK K)
    (refine awp_ret ?_); (refine Exists.intro _ (And.intro rfl ?_))
    have hl : a.length = b.length := by omega
    have hkk : k = a.length := by omega
    subst hkk
    exact fin_bool (by rw [List.take_length, hl, List.take_length] at htk; simp [htk])
end Go.Proofs.Ytophkniaaifmiaa
