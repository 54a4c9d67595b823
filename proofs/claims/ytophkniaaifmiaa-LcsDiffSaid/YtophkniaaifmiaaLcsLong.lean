/- the walks of long and of the library functions below it -/
import Derived.Test.YtophkniaaifmiaaLcsNext
namespace Go.Proofs.Ytophkniaaifmiaa
open Abs Facts
attribute [local irreducible] awp
theorem pc35 (a : List ByteArray) : PC Try.prog 35 [encS a] (.bool (decide (256 < (a.length : Int)))) := by
  refine PC_intro 1 (by simp only [pureD.pureL, pure_encS, Bool.and_self]) rfl (AC_intro [] Try.func35 rfl (by decide +kernel) mixed (by decide +kernel) (by simp [Try.ntmps35]) ?_)
  show awp _ _ (Code.seq _ _) _ _
  (refine awp_seq_reg fun K hK => ?_); (simp only [go_sem]); (refine hK _ ?_); (clear hK K)
  (refine awp_seq_reg fun K hK => ?_); (simp only [go_sem, Nat.reduceBEq, List.length_map, beq_self_eq_true, encS]); (refine hK _ ?_); (clear hK K)
  (refine awp_ret ?_); (refine Exists.intro _ (And.intro rfl ?_))
  exact fin_bool rfl
def tooLong (a : List ByteArray) : Bool := decide (256 < (a.length : Int))
def longAt (rows : List (List ByteArray)) : Int := match rows.findIdx? tooLong with | some n => (n : Int) | none => -1
theorem longAt_nonneg (rows : List (List ByteArray)) : (0 ≤ longAt rows) ↔ rows.any tooLong = true := by
  unfold longAt
  cases h : rows.findIdx? tooLong with
  | none =>
    rw [List.findIdx?_eq_none_iff] at h
    simp only [List.any_eq_true]
    constructor
    · intro h; omega
    · rintro ⟨x, hx, hp⟩; rw [h x hx] at hp; cases hp
  | some i =>
    rw [List.findIdx?_eq_some_iff_getElem] at h
    obtain ⟨hi, hp, _⟩ := h
    simp only [List.any_eq_true]
    constructor
    · intro _; exact ⟨_, List.getElem_mem hi, hp⟩
    · intro _; omega
theorem pure_rows (nn : Bool) (rows : List (List ByteArray)) : pureD (.rsl nn 1 (rows.map encS)) = true := by simp only [pureD]; exact pureL_map (fun x => pure_encS x) rows
set_option maxRecDepth 100000 in
set_option maxHeartbeats 2000000 in
theorem pc37 (nn : Bool) (rows : List (List ByteArray)) (hl : rows.length ≤ 1000) : PC Try.prog 37 [.rsl nn 1 (rows.map encS), .fn 35 []] (.int .i64 (longAt rows)) := by
  refine PC_intro 1 (by simp only [pureD.pureL, pure_rows]; rfl) rfl (AC_intro [] Try.func37 rfl (by decide +kernel) mixed (by decide +kernel) (by simp [Try.ntmps37]) ?_)
  show awp _ _ (Code.seq _ _) _ _
  (refine awp_seq_reg fun K hK => ?_); (simp only [go_sem]); (refine hK _ ?_); (clear hK K)
  repeat refine awp_assoc ?_
  (refine awp_seq_reg fun K hK => ?_); (simp only [go_sem, Nat.reduceBEq, List.length_map, beq_self_eq_true]); (refine hK _ ?_); (clear hK K)
  refine awp_seq fun K hK => ?_
  refine awp_block (awp_loop (fun n st => ∃ k : Nat, n = rows.length - k ∧ k ≤ rows.length ∧ st.t 0 = .rsl nn 1 (rows.map encS) ∧ st.t 1 = .fn 35 [] ∧ st.t 7 = .int .i64 rows.length ∧ st.t 8 = .int .i64 k ∧ ∀ j, ∀ h : j < rows.length, j < k → tooLong rows[j] = false) rows.length ?_ ?_)
  · exact ⟨0, by simp, by simp, rfl, rfl, rfl, rfl, fun j _ h => by omega⟩
  rintro n st ⟨k, rfl, hk, h0, h1, h7, h8, hj⟩
  repeat refine awp_assoc ?_
  (refine awp_seq_reg fun K hK => ?_); (simp only [go_sem, h8, h7]); (refine hK _ ?_); (clear hK K)
  refine awp_seq fun K2 hK2 => ?_
  (refine awp_cond _ rfl (fun hc => ?_) (fun hc => ?_)) <;> (simp only [decide_eq_true_eq, decide_eq_false_iff_not] at hc)
  · have hk' : k < rows.length := by omega
    refine awp_skip (hK2 _ ?_); clear hK2 K2
    refine awp_seq fun K2 hK2 => ?_
    refine awp_block ?_
    repeat refine awp_assoc ?_
    have i1 := idxD_map encS rows k hk'
    have wk : IntKind.i64.wrap ((k : Int) + 1) = ((k + 1 : Nat) : Int) := wrapI (by omega)
    (refine awp_seq_reg fun K hK => ?_); (simp only [go_sem, Nat.reduceBEq, beq_self_eq_true, h8]); (refine hK _ ?_); (clear hK K)
    repeat refine awp_assoc ?_
    refine awp_seq_reg fun K hK => ?_
    simp only [go_sem, Nat.reduceBEq, reduceCtorEq, ne_eq, not_false_eq_true, Nat.reduceAdd, beq_self_eq_true, h0, h1, i1, encS]
    refine callW_pc (pc35 rows[k]) ?_
    simp only [go_sem]
    refine hK _ ?_
    clear hK K
    (refine awp_cond _ rfl (fun hc => ?_) (fun hc => ?_)) <;> (simp only [decide_eq_true_eq, decide_eq_false_iff_not] at hc)
    · (refine awp_seq_reg fun K hK => ?_); (simp only [go_sem, Nat.reduceBEq, beq_self_eq_true]); (refine hK _ ?_); (clear hK K)
      (refine awp_ret ?_); (refine Exists.intro _ (And.intro rfl ?_))
      refine fin_int ?_
      have : rows.findIdx? tooLong = some k := by
        rw [List.findIdx?_eq_some_iff_getElem]
        exact ⟨hk', by unfold tooLong; simp [hc], fun j hjk => by rw [hj j (by omega) hjk]; simp⟩
      unfold longAt; rw [this]
    · refine awp_skip (show K2 _ from hK2 _ ?_)
      (refine awp_reg ?_); (simp only [go_sem, Nat.reduceBEq, beq_self_eq_true, h8, wk])
      refine ⟨rows.length - (k + 1), by omega, k + 1, rfl, by omega, h0, h1, h7, rfl, fun j h hjk => ?_⟩
      by_cases he : j = k
      · subst he; unfold tooLong; simpa using hc
      · exact hj j h (by omega)
  · refine awp_exit (show K _ from hK _ ?_)
    (refine awp_seq_reg fun K hK => ?_); (simp only [go_sem]); (refine hK _ ?_); (clear hK K)
    (refine awp_ret ?_); (refine Exists.intro _ (And.intro rfl ?_))
    refine fin_int ?_
    have : rows.findIdx? tooLong = none := by
      rw [List.findIdx?_eq_none_iff]
      intro x hx
      obtain ⟨j, hj', rfl⟩ := List.getElem_of_mem hx
      exact hj j hj' (by omega)
    unfold longAt; rw [this]
theorem pc34 (nn : Bool) (rows : List (List ByteArray)) (hl : rows.length ≤ 1000) : PC Try.prog 34 [.rsl nn 1 (rows.map encS), .fn 35 []] (.bool (rows.any tooLong)) := by
  refine PC_intro 1 (by simp only [pureD.pureL, pure_rows]; rfl) rfl (AC_intro [] Try.func34 rfl (by decide +kernel) mixed (by decide +kernel) (by simp [Try.ntmps34]) ?_)
  show awp _ _ (Code.seq _ _) _ _
  (refine awp_seq_reg fun K hK => ?_); (simp only [go_sem]); (refine hK _ ?_); (clear hK K)
  refine awp_seq_reg fun K hK => ?_
  simp only [go_sem, Nat.reduceBEq, beq_self_eq_true]
  refine callW_pc (pc37 nn rows hl) ?_
  simp only [go_sem, Nat.reduceBEq, beq_self_eq_true]
  refine hK _ ?_
  clear hK K
  (refine awp_ret ?_); (refine Exists.intro _ (And.intro rfl ?_))
  refine fin_bool ?_
  have := longAt_nonneg rows
  by_cases h : 0 ≤ longAt rows
  · rw [this.1 h]; simp [h]
  · have h2 : rows.any tooLong = false := by
      cases hq : rows.any tooLong with
      | true => exact (h (this.2 hq)).elim
      | false => rfl
    rw [h2]; simp [h]
theorem pc27 (nn : Bool) (rows : List (List ByteArray)) (hl : rows.length ≤ 1000) : PC Try.prog 27 [.rsl nn 1 (rows.map encS)] (.bool (rows.any tooLong)) := by
  refine PC_intro 1 (by simp only [pureD.pureL, pure_rows]; rfl) rfl (AC_intro [] Try.func27 rfl (by decide +kernel) mixed (by decide +kernel) (by simp [Try.ntmps27]) ?_)
  show awp _ _ (Code.seq _ _) _ _
  (refine awp_seq_reg fun K hK => ?_); (simp only [go_sem]); (refine hK _ ?_); (clear hK K)
  refine awp_seq_reg fun K hK => ?_
  simp only [go_sem, Nat.reduceBEq, beq_self_eq_true]
  refine callW_pc (pc34 nn rows hl) ?_
  simp only [go_sem, Nat.reduceBEq, beq_self_eq_true]
  refine hK _ ?_
  clear hK K
  (refine awp_ret ?_); (refine Exists.intro _ (And.intro rfl ?_))
  exact fin_bool rfl
end Go.Proofs.Ytophkniaaifmiaa
