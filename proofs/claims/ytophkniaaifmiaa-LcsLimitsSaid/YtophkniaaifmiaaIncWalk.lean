/- the walk of the law LcsIncreasing -/
import Derived.Test.YtophkniaaifmiaaRising
import Derived.Test.YtophkniaaifmiaaAwake
import Derived.Test.YtophkniaaifmiaaLisLong
namespace Go.Proofs.Ytophkniaaifmiaa
open Abs Facts
attribute [local irreducible] awp
def lisI (l : List Int) : List Int := (Lis.lis l).map fun (n : Nat) => (n : Int)
theorem lisI_len (l : List Int) : (lisI l).length = (Lis.lis l).length := List.length_map _
theorem pc11' (l : List Int) (hl : l.length ≤ maxLen) : PC Try.prog 11 [encI l] (encI (lisI l)) := pc11 l hl
theorem pc13' (l : List Int) (hl : l.length ≤ maxLen) : PC Try.prog 13 [encI l] (encI (lisI l)) := pc13 l hl
set_option maxRecDepth 100000 in
set_option maxHeartbeats 2000000 in
theorem pc3 (l o : List Int) (hl : l.length ≤ maxLen) (ho : o.length ≤ maxLen) : PC Try.prog 3 [encI l, encI o] (.bool true) := by
  unfold maxLen at hl ho
  refine PC_intro 1 (by simp only [pureD.pureL, pure_encI, Bool.and_self]) rfl (AC_intro [] Try.func3 rfl (by decide +kernel) mixed (by decide +kernel) (by simp [Try.ntmps3]) ?_)
  show awp _ _ (Code.seq _ _) _ _
  (refine awp_seq_reg fun K hK => ?_); (simp only [go_sem]); (refine hK _ ?_); (clear hK K)
  repeat refine awp_assoc ?_
  refine awp_seq_reg fun K hK => ?_
  simp only [go_sem]
  refine callW_pc pc10 ?_
  simp only [go_sem, Nat.reduceBEq, Bool.not_true, beq_self_eq_true]
  refine hK _ ?_
  clear hK K
  refine awp_seq fun K hK => ?_
  refine awp_cond false rfl (fun hc => (by cases hc)) (fun _ => ?_)
  refine awp_skip (hK _ ?_); clear hK K
  repeat refine awp_assoc ?_
  by_cases g1 : 60 < (l.length : Int)
  · (refine awp_seq_reg fun K hK => ?_); (simp only [go_sem, Nat.reduceBEq, Bool.not_true, decide_true, List.length_map, beq_self_eq_true, g1]); (refine hK _ ?_); (clear hK K)
    refine awp_seq fun K hK => ?_
    refine awp_cond true rfl (fun _ => ?_) (fun hc => (by cases hc))
    (refine awp_seq_reg fun K hK => ?_); (simp only [go_sem]); (refine hK _ ?_); (clear hK K)
    (refine awp_ret ?_); (refine Exists.intro _ (And.intro rfl ?_))
    exact fin_bool rfl
  by_cases g2 : 60 < (o.length : Int)
  · (refine awp_seq_reg fun K hK => ?_); (simp only [go_sem, Nat.reduceBEq, decide_true, decide_false, List.length_map, beq_self_eq_true, g1, g2]); (refine hK _ ?_); (clear hK K)
    refine awp_seq fun K hK => ?_
    refine awp_cond true rfl (fun _ => ?_) (fun hc => (by cases hc))
    (refine awp_seq_reg fun K hK => ?_); (simp only [go_sem]); (refine hK _ ?_); (clear hK K)
    (refine awp_ret ?_); (refine Exists.intro _ (And.intro rfl ?_))
    exact fin_bool rfl
  (refine awp_seq_reg fun K hK => ?_); (simp only [go_sem, Nat.reduceBEq, decide_false, List.length_map, beq_self_eq_true, g1, g2]); (refine hK _ ?_); (clear hK K)
  refine awp_seq fun K hK => ?_
  refine awp_cond false rfl (fun hc => (by cases hc)) (fun _ => ?_)
  refine awp_skip (hK _ ?_); clear hK K
  repeat refine awp_assoc ?_
  have hl' : l.length ≤ 60 := by omega
  have ho' : o.length ≤ 60 := by omega
  refine awp_seq_reg fun K hK => ?_
  simp only [go_sem, Nat.reduceBEq, beq_self_eq_true]
  refine callW_pc (pc11' l (by unfold maxLen; omega)) ?_
  simp only [go_sem, Nat.reduceBEq, beq_self_eq_true]
  refine hK _ ?_
  clear hK K
  repeat refine awp_assoc ?_
  have hlis : (lisI l).length ≤ 256 := by
    rw [lisI_len]; unfold Lis.lis
    split
    · simp
    · have := Lis.sel_len l l.length; omega
  refine awp_seq_reg fun K hK => ?_
  simp only [go_sem, Nat.reduceBEq, beq_self_eq_true]
  refine callW_pc (pc13' l (by unfold maxLen; omega)) ?_
  simp only [go_sem, Nat.reduceBEq, beq_self_eq_true]
  refine callW_pc (pc12 _ _ (by unfold maxLen; omega) (by unfold maxLen; omega)) ?_
  simp only [go_sem, Nat.reduceBEq, Bool.not_true, decide_true, beq_self_eq_true]
  refine hK _ ?_
  clear hK K
  refine awp_seq fun K hK => ?_
  refine awp_cond false rfl (fun hc => (by cases hc)) (fun _ => ?_)
  refine awp_skip (hK _ ?_); clear hK K
  repeat refine awp_assoc ?_
  (refine awp_seq_reg fun K hK => ?_); (simp only [go_sem]); (refine hK _ ?_); (clear hK K)
  refine awp_seq fun K hK => ?_
  refine awp_block (awp_loop (fun n st => ∃ i : Nat, n = o.length - i ∧ i ≤ o.length ∧ st.t 0 = encI l ∧ st.t 1 = encI o ∧ st.t 5 = encI (lisI l) ∧ st.t 6 = .int .i64 i ∧ Lis.Good l o i) o.length ?_ ?_)
  · exact ⟨0, by simp, by simp, rfl, rfl, rfl, rfl, fun j hj => by omega⟩
  rintro n st ⟨i, rfl, hi, h0, h1, h5, h6, hg⟩
  repeat refine awp_assoc ?_
  (refine awp_seq_reg fun K hK => ?_); (simp only [go_sem, Nat.reduceBEq, List.length_map, beq_self_eq_true, h6, h1, encI]); (refine hK _ ?_); (clear hK K)
  refine awp_seq fun K2 hK2 => ?_
  (refine awp_cond _ rfl (fun hc => ?_) (fun hc => ?_)) <;> (simp only [decide_eq_true_eq, decide_eq_false_iff_not] at hc)
  · have hi' : i < o.length := by omega
    refine awp_skip (hK2 _ ?_); clear hK2 K2
    refine awp_seq fun K2 hK2 => ?_
    refine awp_block ?_
    repeat refine awp_assoc ?_
    have i1 := idxD_map (D.int .i64) o i hi'
    have e1 := getD_get o i hi'
    have wi : IntKind.i64.wrap ((i : Int) + 1) = ((i + 1 : Nat) : Int) := wrapI (by omega)
    have step : ∀ st' : St, st'.t 0 = encI l → st'.t 1 = encI o → st'.t 5 = encI (lisI l) → st'.t 6 = .int .i64 i → Lis.Good l o (i + 1) → K2 st' := by
      intro st' h0 h1 h5 h6 hg
      refine hK2 _ ?_
      (refine awp_reg ?_); (simp only [go_sem, Nat.reduceBEq, beq_self_eq_true, h6, wi])
      exact ⟨o.length - (i + 1), by omega, i + 1, rfl, by omega, h0, h1, h5, rfl, hg⟩
    by_cases c1 : o[i] < 0
    · (refine awp_seq_draw (by decide +kernel) fun K hK => ?_); (simp only [go_sem, Nat.reduceBEq, Bool.not_true, decide_true, reduceCtorEq, ne_eq, not_false_eq_true, Nat.reduceAdd, beq_self_eq_true, h1, h6, i1, c1, encI]); (refine hK _ ?_); (clear hK K)
      refine awp_cond true rfl (fun _ => ?_) (fun hc => (by cases hc))
      (refine awp_seq_reg fun K hK => ?_); (simp only [go_sem]); (refine hK _ ?_); (clear hK K)
      (refine awp_ret ?_); (refine Exists.intro _ (And.intro rfl ?_))
      exact fin_bool rfl
    by_cases c2 : (l.length : Int) ≤ o[i]
    · (refine awp_seq_draw (by decide +kernel) fun K hK => ?_); (simp only [go_sem, Nat.reduceBEq, Bool.not_true, decide_true, decide_false, reduceCtorEq, ne_eq, not_false_eq_true, List.length_map, Nat.reduceAdd, beq_self_eq_true, h0, h1, h6, i1, c1, c2, encI]); (refine hK _ ?_); (clear hK K)
      refine awp_cond true rfl (fun _ => ?_) (fun hc => (by cases hc))
      (refine awp_seq_reg fun K hK => ?_); (simp only [go_sem]); (refine hK _ ?_); (clear hK K)
      (refine awp_ret ?_); (refine Exists.intro _ (And.intro rfl ?_))
      exact fin_bool rfl
    by_cases c3 : 0 < (i : Int)
    · have wm : IntKind.i64.wrap ((i : Int) - 1) = ((i - 1 : Nat) : Int) := by rw [wrapI (by omega)]; omega
      have i2 := idxD_map (D.int .i64) o (i - 1) (by omega)
      have e2 := getD_get o (i - 1) (by omega)
      have hp := hg (i - 1) (by omega)
      rw [e2] at hp
      by_cases c4 : o[i] ≤ o[i - 1]
      · (refine awp_seq_draw (by decide +kernel) fun K hK => ?_); (simp only [go_sem, Nat.reduceBEq, Bool.not_true, decide_true, decide_false, reduceCtorEq, ne_eq, not_false_eq_true, List.length_map, Nat.reduceAdd, beq_self_eq_true, h0, h1, h6, i1, i2, c1, c2, c3, c4, wm, encI]); (refine hK _ ?_); (clear hK K)
        refine awp_cond true rfl (fun _ => ?_) (fun hc => (by cases hc))
        (refine awp_seq_reg fun K hK => ?_); (simp only [go_sem]); (refine hK _ ?_); (clear hK K)
        (refine awp_ret ?_); (refine Exists.intro _ (And.intro rfl ?_))
        exact fin_bool rfl
      have i3 := idxD_map (D.int .i64) l (o[i]).toNat (by omega)
      have i4 := idxD_map (D.int .i64) l (o[i - 1]).toNat (by omega)
      rw [Int.toNat_of_nonneg (by omega)] at i3 i4
      have e3 := getD_get l (o[i]).toNat (by omega)
      have e4 := getD_get l (o[i - 1]).toNat (by omega)
      by_cases c5 : l[(o[i]).toNat]'(by omega) ≤ l[(o[i - 1]).toNat]'(by omega)
      · (refine awp_seq_draw (by decide +kernel) fun K hK => ?_); (simp only [go_sem, Nat.reduceBEq, decide_true, decide_false, reduceCtorEq, ne_eq, not_false_eq_true, List.length_map, Nat.reduceAdd, beq_self_eq_true, h0, h1, h6, i1, i2, i3, i4, c1, c2, c3, c4, c5, wm, encI]); (refine hK _ ?_); (clear hK K)
        refine awp_cond true rfl (fun _ => ?_) (fun hc => (by cases hc))
        (refine awp_seq_reg fun K hK => ?_); (simp only [go_sem]); (refine hK _ ?_); (clear hK K)
        (refine awp_ret ?_); (refine Exists.intro _ (And.intro rfl ?_))
        exact fin_bool rfl
      · (refine awp_seq_draw (by decide +kernel) fun K hK => ?_); (simp only [go_sem, Nat.reduceBEq, decide_true, decide_false, reduceCtorEq, ne_eq, not_false_eq_true, List.length_map, Nat.reduceAdd, beq_self_eq_true, h0, h1, h6, i1, i2, i3, i4, c1, c2, c3, c4, c5, wm, encI]); (refine hK _ ?_); (clear hK K)
        refine awp_cond false rfl (fun hc => (by cases hc)) (fun _ => ?_)
        refine awp_skip (step _ h0 h1 h5 h6 fun j hj => ?_)
        by_cases hji : j = i
        · subst hji
          rw [e1, e2, e3, e4]
          exact ⟨by omega, by omega, fun _ => ⟨by omega, by omega⟩⟩
        · exact hg j (by omega)
    · (refine awp_seq_draw (by decide +kernel) fun K hK => ?_); (simp only [go_sem, Nat.reduceBEq, decide_false, reduceCtorEq, ne_eq, not_false_eq_true, List.length_map, Nat.reduceAdd, beq_self_eq_true, h0, h1, h6, i1, c1, c2, c3, encI]); (refine hK _ ?_); (clear hK K)
      refine awp_cond false rfl (fun hc => (by cases hc)) (fun _ => ?_)
      refine awp_skip (step _ h0 h1 h5 h6 fun j hj => ?_)
      obtain rfl : j = i := by omega
      rw [e1]
      exact ⟨by omega, by omega, fun h => by omega⟩
  · refine awp_exit (show K _ from hK _ ?_)
    obtain rfl : i = o.length := by omega
    have hmain := Lis.longest l o (by omega) hg
    have hc9 : (o.length : Int) ≤ ((lisI l).length : Int) := by rw [lisI_len]; omega
    (refine awp_seq_reg fun K hK => ?_); (simp only [go_sem, Nat.reduceBEq, decide_true, List.length_map, beq_self_eq_true, h1, h5, encI, hc9]); (refine hK _ ?_); (clear hK K)
    (refine awp_ret ?_); (refine Exists.intro _ (And.intro rfl ?_))
    exact fin_bool rfl
end Go.Proofs.Ytophkniaaifmiaa
