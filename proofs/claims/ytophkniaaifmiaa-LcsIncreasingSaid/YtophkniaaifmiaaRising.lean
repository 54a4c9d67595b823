/- the walk of the reference Rising -/
import Derived.Test.YtophkniaaifmiaaFacts
import Derived.Test.YtophkniaaifmiaaLisWalk
namespace Go.Proofs.Ytophkniaaifmiaa
open Abs Facts
attribute [local irreducible] awp
theorem Lis.sel_stop (l : List Int) (n : Nat) (h : Lis.most l ≤ (Lis.sel l n).length) : ∀ k, Lis.sel l (n + k) = Lis.sel l n
  | 0 => rfl
  | k + 1 => by
    have ih := Lis.sel_stop l n h k
    rw [← Nat.add_assoc, Lis.sel_succ, ih]
    unfold Lis.sel1
    rw [if_neg (by omega)]
theorem Lis.sel_le_most (l : List Int) : ∀ n, ((Lis.sel l n).length : Int) ≤ Lis.most l
  | 0 => by have := Lis.most_bd l; simp [Lis.sel]; omega
  | n + 1 => by
    have ih := Lis.sel_le_most l n
    rw [Lis.sel_succ]; unfold Lis.sel1
    split
    · simp; omega
    · exact ih
theorem Lis.foldr_max (l : List Int) : ∀ (m : Int), l.foldl max m = max m (l.foldr max 0) ∨ m < 0 := by
  induction l with
  | nil => intro m; simp; omega
  | cons x xs ih =>
    intro m
    simp only [List.foldl_cons, List.foldr_cons]
    rcases ih (max m x) with h | h
    · rw [h]; omega
    · omega
theorem Lis.take_most (l : List Int) (i : Nat) (hi : i < l.length) : (l.take (i + 1)).foldl max 0 = max ((l.take i).foldl max 0) (l[i]) := by
  rw [List.take_succ_eq_append_getElem hi, List.foldl_append]; rfl
set_option maxRecDepth 100000 in
set_option maxHeartbeats 2000000 in
theorem pc13 (l : List Int) (hl : l.length ≤ maxLen) : PC Try.prog 13 [encI l] (encI ((Lis.lis l).map fun (n : Nat) => (n : Int))) := by
  unfold maxLen at hl
  refine PC_intro 2 (by simp only [pureD.pureL, pure_encI, Bool.and_self]) (pure_encI _) (AC_intro [10] Try.func13 rfl (by decide +kernel) mixed (by decide +kernel) (by simp [Try.ntmps13]) ?_)
  show awp _ _ (Code.seq _ _) _ _
  (refine awp_seq_reg fun K hK => ?_); (simp only [go_sem, Nat.reduceBEq, Nat.zero_add]); (refine hK _ ?_); (clear hK K)
  repeat refine awp_assoc ?_
  (refine awp_seq_reg fun K hK => ?_); (simp only [go_sem, Nat.reduceBEq, reduceCtorEq, ne_eq, not_false_eq_true, Nat.reduceAdd, Nat.zero_le, beq_self_eq_true, or_true, Nat.mul_one, Nat.zero_add, encI]); (refine hK _ ?_); (clear hK K)
  repeat refine awp_assoc ?_
  (refine awp_seq_reg fun K hK => ?_); (simp only [go_sem, Nat.reduceBEq, List.length_map, beq_self_eq_true]); (refine hK _ ?_); (clear hK K)
  refine awp_seq fun K hK => ?_
  (refine awp_cond _ rfl (fun hc => ?_) (fun hc => ?_)) <;> (simp only [decide_eq_true_eq, decide_eq_false_iff_not] at hc)
  · (refine awp_seq_reg fun K hK => ?_); (simp only [go_sem, Nat.reduceBEq, beq_self_eq_true]); (refine hK _ ?_); (clear hK K)
    (refine awp_ret ?_); (refine Exists.intro _ (And.intro rfl ?_))
    refine fin_row 0 rfl isAggT3 sizeT3 (by simp) rfl ?_
    simp only [Lis.lis]; rw [if_pos (by omega)]; rfl
  refine awp_skip (hK _ ?_); clear hK K
  repeat refine awp_assoc ?_
  have g1 : (0 : Int) ≤ (l.length : Int) := by omega
  have g2 : l.length * 8 ≤ 140737488355328 := by omega
  have g3 : (l.length : Int) ≤ 9223372036854775807 := by omega
  (refine awp_seq_reg fun K hK => ?_); (simp only [go_sem, Nat.reduceBEq, List.length_map, Nat.reduceAdd, Nat.reduceLT, beq_self_eq_true, Int.toNat_natCast, Int.natCast_nonneg, g2, g3]); (refine hK _ ?_); (clear hK K)
  have w1 : IntKind.i64.wrap ((l.length : Int) - 1) = (l.length : Int) - 1 := wrapI (by omega)
  refine awp_seq fun K hK => ?_
  repeat refine awp_assoc ?_
  (refine awp_seq_reg fun K hK => ?_); (simp only [go_sem, Nat.reduceBEq, List.length_map, beq_self_eq_true, w1, flat_rep (D.int .i64) 0 l.length]); (refine hK _ ?_); (clear hK K)
  refine awp_block (awp_loop (fun n st => ∃ cs : List Int, n ≤ l.length ∧ st.t 0 = encI l ∧ st.t 3 = .osl 0 0 ∧ st.H 0 = some (.row 3 0 []) ∧ st.t 4 = .osl 1 l.length ∧ st.H 1 = some (.row 3 l.length (cs.map (D.int .i64))) ∧ cs.length = l.length ∧
      cs.drop n = Lis.rows (l.drop n) ∧ st.t 5 = .int .i64 ((n : Int) - 1) ∧ st.nx = 2) l.length ?_ ?_)
  · exact ⟨List.replicate l.length 0, Nat.le_refl _, rfl, rfl, rfl, rfl, rfl, by simp, by simp [Lis.rows], rfl, rfl⟩
  rintro n st ⟨cs, hn, h0, h3, hH0, h4, hH, hcl, hcd, h5, hnx⟩
  repeat refine awp_assoc ?_
  (refine awp_seq_reg fun K hK => ?_); (simp only [go_sem, beq_self_eq_true, h5]); (refine hK _ ?_); (clear hK K)
  refine awp_seq fun K2 hK2 => ?_
  (refine awp_cond _ rfl (fun hc => ?_) (fun hc => ?_)) <;> (simp only [decide_eq_true_eq, decide_eq_false_iff_not] at hc)
  · obtain ⟨j, rfl⟩ : ∃ j, n = j + 1 := ⟨n - 1, by omega⟩
    have h5' : st.t 5 = .int .i64 (j : Int) := by rw [h5]; congr 1; omega
    refine awp_skip (hK2 _ ?_); clear hK2 K2 h5
    repeat refine awp_assoc ?_
    refine awp_seq fun K2 hK2 => ?_
    refine awp_block ?_
    repeat refine awp_assoc ?_
    have hj : (j : Int) < (l.length : Int) := by omega
    have hj2 : j + 1 ≤ l.length := by omega
    (refine awp_seq_reg fun K hK => ?_); (simp only [go_sem, Nat.reduceBEq, reduceCtorEq, ne_eq, not_false_eq_true, List.length_map, Nat.reduceLT, List.length_cons, List.length_nil, beq_self_eq_true, Int.toNat_natCast, Nat.mul_one, Nat.zero_add, Int.natCast_nonneg, h4, h5', hH, hj, hcl, hj2, map_set']); (refine hK _ ?_); (clear hK K)
    repeat refine awp_assoc ?_
    have wj : IntKind.i64.wrap ((j : Int) + 1) = ((j + 1 + 0 : Nat) : Int) := by rw [wrapI (by omega)]; omega
    (refine awp_seq_reg fun K hK => ?_); (simp only [go_sem, Nat.reduceBEq, beq_self_eq_true, Nat.add_zero, h5', wj]); (refine hK _ ?_); (clear hK K)
    refine awp_block (awp_loop (fun m st => ∃ (k : Nat) (cs : List Int), m = l.length - (j + 1 + k) ∧ j + 1 + k ≤ l.length ∧ st.t 0 = encI l ∧ st.t 3 = .osl 0 0 ∧ st.H 0 = some (.row 3 0 []) ∧ st.t 4 = .osl 1 l.length ∧ st.H 1 = some (.row 3 l.length (cs.map (D.int .i64))) ∧ cs.length = l.length ∧
      cs.drop (j + 1) = Lis.rows (l.drop (j + 1)) ∧ st.t 5 = .int .i64 (j : Int) ∧ st.t 6 = .int .i64 ((j + 1 + k : Nat) : Int) ∧ cs[j]? = some (Lis.inner l j k) ∧ 1 ≤ Lis.inner l j k ∧ Lis.inner l j k ≤ l.length ∧ st.nx = 2) (l.length - (j + 1)) ?_ ?_)
    · refine ⟨0, cs.set j 1, rfl, hj2, h0, h3, hH0, h4, rfl, by simpa using hcl, ?_, h5', rfl, ?_, by simp [Lis.inner_zero], by simp [Lis.inner_zero]; omega, hnx⟩
      · rw [List.drop_set_of_lt (by omega)]; exact hcd
      · have : j < cs.length := by omega
        simp [Lis.inner_zero, this]
    clear hH0 hH hcd hcl h0 h3 h4 hnx h5' hn
    rintro m st ⟨k, cs, rfl, hk, h0, h3, hH0, h4, hH, hcl, hcd, h5, h6, hcj, hi1, hi2, hnx⟩
    repeat refine awp_assoc ?_
    (refine awp_seq_reg fun K hK => ?_); (simp only [go_sem, Nat.reduceBEq, List.length_map, beq_self_eq_true, h6, h0, encI]); (refine hK _ ?_); (clear hK K)
    refine awp_seq fun K4 hK4 => ?_
    (refine awp_cond _ rfl (fun hc => ?_) (fun hc => ?_)) <;> (simp only [decide_eq_true_eq, decide_eq_false_iff_not] at hc)
    · have hk' : j + 1 + k < l.length := by omega
      refine awp_skip (hK4 _ ?_); clear hK4 K4
      refine awp_seq fun K4 hK4 => ?_
      refine awp_block ?_
      repeat refine awp_assoc ?_
      have i1 := idxD_map (D.int .i64) l (j + 1 + k) hk'
      have i2 := idxD_map (D.int .i64) l j (by omega)
      have hin := Lis.inner_succ l j k hk' cs hcl hcd
      have hle := Lis.rows_get_le l (j + 1 + k) cs hcl (j + 1) hcd (by omega) hk'
      have wk : IntKind.i64.wrap (cs[j + 1 + k] + 1) = cs[j + 1 + k] + 1 := wrapI (by omega)
      have e1 : cs[j + 1 + k]? = some cs[j + 1 + k] := List.getElem?_eq_getElem (by omega)
      have hkn : ((j + 1 + k : Nat) : Int) < (l.length : Int) := by omega
      have tail : ∀ st' : St, (∃ cs' : List Int, st'.t 0 = encI l ∧ st'.t 3 = .osl 0 0 ∧ st'.H 0 = some (.row 3 0 []) ∧ st'.t 4 = .osl 1 l.length ∧ st'.H 1 = some (.row 3 l.length (cs'.map (D.int .i64))) ∧ cs'.length = l.length ∧
          cs'.drop (j + 1) = Lis.rows (l.drop (j + 1)) ∧ st'.t 5 = .int .i64 (j : Int) ∧ st'.t 6 = .int .i64 ((j + 1 + k : Nat) : Int) ∧ cs'[j]? = some (Lis.inner l j (k + 1)) ∧ 1 ≤ Lis.inner l j (k + 1) ∧ st'.nx = 2) → K4 st' := by
        rintro st' ⟨cs', h0, h3, hH0, h4, hH, hcl, hcd, h5, h6, hcj, hi1, hnx⟩
        refine hK4 _ ?_
        have wk2 : IntKind.i64.wrap (((j + 1 + k : Nat) : Int) + 1) = ((j + 1 + (k + 1) : Nat) : Int) := by rw [wrapI (by omega)]; omega
        (refine awp_reg ?_); (simp only [go_sem, Nat.reduceBEq, beq_self_eq_true, h6, wk2])
        exact ⟨l.length - (j + 1 + (k + 1)), by omega, k + 1, cs', rfl, by omega, h0, h3, hH0, h4, hH, hcl, hcd, h5, rfl, hcj, hi1, Lis.inner_le l j (k + 1) (by omega), hnx⟩
      by_cases c1 : l[j] < l[j + 1 + k]
      · by_cases c2 : Lis.inner l j k < cs[j + 1 + k] + 1
        · have e2 : Lis.inner l j (k + 1) = cs[j + 1 + k] + 1 := by rw [hin]; unfold Lis.upd1; rw [if_pos c1]; show max _ _ = _; omega
          (refine awp_seq_draw (by decide +kernel) fun K hK => ?_); (simp only [go_sem, Nat.reduceBEq, decide_true, reduceCtorEq, ne_eq, not_false_eq_true, List.length_map, Nat.reduceAdd, beq_self_eq_true, Int.toNat_natCast, Nat.mul_one, Int.natCast_nonneg, List.getElem?_map, h0, h5, h6, i1, i2, encI, c1, c2, h4, hH, hkn, hcl, e1, hcj, wk, hj, hj2]); (refine hK _ ?_); (clear hK K)
          refine awp_cond true rfl (fun _ => ?_) (fun hc => (by cases hc))
          (refine awp_reg ?_); (simp only [go_sem, Nat.reduceBEq, reduceCtorEq, ne_eq, not_false_eq_true, List.length_map, Nat.reduceAdd, Nat.reduceLT, List.length_cons, List.length_nil, beq_self_eq_true, Int.toNat_natCast, Nat.mul_one, Nat.zero_add, Int.natCast_nonneg, List.getElem?_map, h4, h5, h6, hH, hj, hkn, hcl, hj2, e1, wk, map_set'])
          refine (show K4 _ from tail _ ⟨cs.set j (cs[j + 1 + k] + 1), h0, h3, hH0, h4, rfl, by simpa using hcl, ?_, h5, h6, ?_, by omega, hnx⟩)
          · rw [List.drop_set_of_lt (by omega)]; exact hcd
          · rw [e2, List.getElem?_set_self (by omega)]
        · have e2 : Lis.inner l j (k + 1) = Lis.inner l j k := by rw [hin]; unfold Lis.upd1; rw [if_pos c1]; show max _ _ = _; omega
          (refine awp_seq_draw (by decide +kernel) fun K hK => ?_); (simp only [go_sem, Nat.reduceBEq, decide_true, decide_false, reduceCtorEq, ne_eq, not_false_eq_true, List.length_map, Nat.reduceAdd, beq_self_eq_true, Int.toNat_natCast, Nat.mul_one, Int.natCast_nonneg, List.getElem?_map, h0, h5, h6, i1, i2, encI, c1, c2, h4, hH, hkn, hcl, e1, hcj, wk, hj, hj2]); (refine hK _ ?_); (clear hK K)
          refine awp_cond false rfl (fun hc => (by cases hc)) (fun _ => ?_)
          exact awp_skip (tail _ ⟨cs, h0, h3, hH0, h4, hH, hcl, hcd, h5, h6, by rw [e2]; exact hcj, by omega, hnx⟩)
      · have e2 : Lis.inner l j (k + 1) = Lis.inner l j k := by rw [hin]; unfold Lis.upd1; rw [if_neg c1]
        (refine awp_seq_draw (by decide +kernel) fun K hK => ?_); (simp only [go_sem, Nat.reduceBEq, decide_false, reduceCtorEq, ne_eq, not_false_eq_true, Nat.reduceAdd, beq_self_eq_true, h0, h5, h6, i1, i2, encI, c1]); (refine hK _ ?_); (clear hK K)
        refine awp_cond false rfl (fun hc => (by cases hc)) (fun _ => ?_)
        exact awp_skip (tail _ ⟨cs, h0, h3, hH0, h4, hH, hcl, hcd, h5, h6, by rw [e2]; exact hcj, by omega, hnx⟩)
    · refine awp_exit ?_
      have hkk : j + 1 + k = l.length := by omega
      refine (show K2 _ from hK2 _ ?_)
      have wj2 : IntKind.i64.wrap ((j : Int) - 1) = (j : Int) - 1 := wrapI (by omega)
      (refine awp_reg ?_); (simp only [go_sem, Nat.reduceBEq, beq_self_eq_true, h5, wj2])
      have hall := Lis.inner_all l j (by omega)
      have hk0 : l.length - (j + 1) = k := by omega
      rw [hk0] at hall
      refine ⟨j, by omega, cs, by omega, h0, h3, hH0, h4, hH, hcl, ?_, rfl, hnx⟩
      rw [hall, List.drop_eq_getElem_cons (by omega), hcd]
      congr 1
      rw [List.getElem?_eq_getElem (by omega)] at hcj
      exact Option.some.inj hcj
  · refine awp_exit ?_
    refine (show K _ from hK _ ?_)
    obtain rfl : n = 0 := by omega
    simp only [List.drop_zero] at hcd
    subst hcd
    have hrl := Lis.rows_length l
    (refine awp_seq_reg fun K hK => ?_); (simp only [go_sem]); (refine hK _ ?_); (clear hK K)
    repeat refine awp_assoc ?_
    (refine awp_seq_reg fun K hK => ?_); (simp only [go_sem]); (refine hK _ ?_); (clear hK K)
    refine awp_seq fun K3 hK3 => ?_
    refine awp_block (awp_loop (fun n st => ∃ i : Nat, n = l.length - i ∧ i ≤ l.length ∧ st.t 0 = encI l ∧ st.t 3 = .osl 0 0 ∧ st.H 0 = some (.row 3 0 []) ∧ st.t 4 = .osl 1 l.length ∧ st.H 1 = some (.row 3 l.length ((Lis.rows l).map (D.int .i64))) ∧
      st.t 7 = .int .i64 (((Lis.rows l).take i).foldl max 0) ∧ st.t 8 = .int .i64 i ∧ st.nx = 2) l.length ?_ ?_)
    · exact ⟨0, by omega, by omega, h0, h3, hH0, h4, hH, rfl, rfl, hnx⟩
    clear h0 h3 hH0 h4 hH h5 hnx
    rintro n st ⟨i, rfl, hi, h0, h3, hH0, h4, hH, h7, h8, hnx⟩
    repeat refine awp_assoc ?_
    (refine awp_seq_reg fun K hK => ?_); (simp only [go_sem, Nat.reduceBEq, List.length_map, beq_self_eq_true, h8, h0, encI]); (refine hK _ ?_); (clear hK K)
    refine awp_seq fun K4 hK4 => ?_
    (refine awp_cond _ rfl (fun hc => ?_) (fun hc => ?_)) <;> (simp only [decide_eq_true_eq, decide_eq_false_iff_not] at hc)
    · have hi' : i < l.length := by omega
      refine awp_skip (hK4 _ ?_)
      refine awp_seq fun K5 hK5 => ?_
      refine awp_block ?_
      repeat refine awp_assoc ?_
      have hri : (Lis.rows l)[i]? = some ((Lis.rows l)[i]'(by omega)) := List.getElem?_eq_getElem (by omega)
      have hin : (i : Int) < (l.length : Int) := by omega
      have htk := Lis.take_most (Lis.rows l) i (by omega)
      have wi : IntKind.i64.wrap ((i : Int) + 1) = ((i + 1 : Nat) : Int) := by rw [wrapI (by omega)]; omega
      (refine awp_seq_reg fun K hK => ?_); (simp only [go_sem, Nat.reduceBEq, decide_true, reduceCtorEq, ne_eq, not_false_eq_true, List.length_map, Nat.reduceAdd, beq_self_eq_true, Int.toNat_natCast, Nat.mul_one, Int.natCast_nonneg, List.getElem?_map, h8, h4, hH, h7, hin, hrl, hri]); (refine hK _ ?_); (clear hK K)
      (refine awp_cond _ rfl (fun hc => ?_) (fun hc => ?_)) <;> (simp only [decide_eq_true_eq, decide_eq_false_iff_not] at hc)
      · (refine awp_reg ?_); (simp only [go_sem, Nat.reduceBEq, reduceCtorEq, ne_eq, not_false_eq_true, List.length_map, Nat.reduceAdd, beq_self_eq_true, Int.toNat_natCast, Nat.mul_one, Int.natCast_nonneg, List.getElem?_map, h8, h4, hH, hin, hrl, hri])
        refine (show K5 _ from hK5 _ ?_)
        (refine awp_reg ?_); (simp only [go_sem, Nat.reduceBEq, beq_self_eq_true, h8, wi])
        exact ⟨l.length - (i + 1), by omega, i + 1, rfl, by omega, h0, h3, hH0, h4, hH, by rw [htk, Int.max_eq_right (by omega)]; rfl, rfl, hnx⟩
      · refine awp_skip (hK5 _ ?_)
        (refine awp_reg ?_); (simp only [go_sem, Nat.reduceBEq, beq_self_eq_true, h8, wi])
        exact ⟨l.length - (i + 1), by omega, i + 1, rfl, by omega, h0, h3, hH0, h4, hH, by rw [htk, Int.max_eq_left (by omega)]; exact h7, rfl, hnx⟩
    · refine awp_exit ?_
      show K3 _
      refine hK3 _ ?_
      obtain rfl : i = l.length := by omega
      have hm : ((Lis.rows l).take l.length).foldl max 0 = Lis.most l := by
        rw [List.take_of_length_le (by omega)]
        rcases Lis.foldr_max (Lis.rows l) 0 with h | h
        · rw [h]; have := Lis.most_bd l; unfold Lis.most at this ⊢; omega
        · omega
      rw [hm] at h7
      repeat refine awp_assoc ?_
      (refine awp_seq_reg fun K hK => ?_); (simp only [go_sem]); (refine hK _ ?_); (clear hK K)
      refine awp_seq fun K5 hK5 => ?_
      refine awp_block (awp_loop (fun n st => ∃ i : Nat, n = l.length - i ∧ i ≤ l.length ∧ st.t 0 = encI l ∧ st.t 4 = .osl 1 l.length ∧ st.H 1 = some (.row 3 l.length ((Lis.rows l).map (D.int .i64))) ∧
        st.t 7 = .int .i64 (Lis.most l - (Lis.sel l i).length) ∧ st.t 9 = .int .i64 i ∧ st.t 3 = .osl 0 (Lis.sel l i).length ∧ st.H 0 = some (.row 3 (Lis.sel l i).length ((Lis.sel l i).map fun (n : Nat) => D.int .i64 (n : Int)))) l.length ?_ ?_)
      · exact ⟨0, by omega, by omega, h0, h4, hH, by show st.t 7 = _; rw [h7]; simp [Lis.sel], rfl, h3, hH0⟩
      clear h0 h3 hH0 h4 hH h7 h8 hnx
      rintro n st ⟨i, rfl, hi, h0, h4, hH, h7, h9, h3, hH0⟩
      have fin : ∀ st' : St, Lis.sel l i = Lis.sel l l.length → st'.t 3 = .osl 0 (Lis.sel l i).length → st'.H 0 = some (.row 3 (Lis.sel l i).length ((Lis.sel l i).map fun (n : Nat) => D.int .i64 (n : Int))) → K5 st' := by
        intro st' he h3 hH0
        refine hK5 _ ?_
        (refine awp_seq_reg fun K hK => ?_); (simp only [go_sem, beq_self_eq_true, h3]); (refine hK _ ?_); (clear hK K)
        (refine awp_ret ?_); (refine Exists.intro _ (And.intro rfl ?_))
        refine fin_row 0 hH0 isAggT3 sizeT3 (by simp) (pureL_map (fun _ => rfl) _) ?_
        simp only [Lis.lis]
        rw [if_neg (by omega), List.map_map, he]
        rfl
      have hsm := Lis.sel_le_most l i
      have hsl := Lis.sel_len l i
      have hmb := Lis.most_bd l
      have hs := Lis.sel_succ l i
      have wi : IntKind.i64.wrap ((i : Int) + 1) = ((i + 1 : Nat) : Int) := by rw [wrapI (by omega)]; omega
      repeat refine awp_assoc ?_
      by_cases c0 : i < l.length
      · have hin : (i : Int) < (l.length : Int) := by omega
        have i1 := idxD_map (D.int .i64) l i c0
        have hri : (Lis.rows l)[i]? = some ((Lis.rows l).getD i 0) := by rw [List.getD_eq_getElem?_getD, List.getElem?_eq_getElem (by omega)]; rfl
        by_cases c1 : 0 < Lis.most l - ((Lis.sel l i).length : Int)
        · (refine awp_seq_reg fun K hK => ?_); (simp only [go_sem, Nat.reduceBEq, decide_true, List.length_map, beq_self_eq_true, h9, h0, encI, hin, h7, c1]); (refine hK _ ?_); (clear hK K)
          refine awp_seq fun K6 hK6 => ?_
          refine awp_cond true rfl (fun _ => ?_) (fun hc => (by cases hc))
          refine awp_skip (hK6 _ ?_)
          refine awp_seq fun K7 hK7 => ?_
          refine awp_block ?_
          repeat refine awp_assoc ?_
          have tail : ∀ st' : St, st'.t 0 = encI l → st'.t 4 = .osl 1 l.length → st'.H 1 = some (.row 3 l.length ((Lis.rows l).map (D.int .i64))) →
              st'.t 7 = .int .i64 (Lis.most l - (Lis.sel l (i + 1)).length) → st'.t 9 = .int .i64 i → st'.t 3 = .osl 0 (Lis.sel l (i + 1)).length → st'.H 0 = some (.row 3 (Lis.sel l (i + 1)).length ((Lis.sel l (i + 1)).map fun (n : Nat) => D.int .i64 (n : Int))) → K7 st' := by
            intro st' h0 h4 hH h7 h9 h3 hH0
            refine hK7 _ ?_
            (refine awp_reg ?_); (simp only [go_sem, Nat.reduceBEq, beq_self_eq_true, h9, wi])
            exact ⟨l.length - (i + 1), by omega, i + 1, rfl, by omega, h0, h4, hH, h7, rfl, h3, hH0⟩
          by_cases c2 : (Lis.rows l).getD i 0 = Lis.most l - ((Lis.sel l i).length : Int)
          · have hb1 : ((Lis.sel l i).length + 1) * 8 ≤ 140737488355328 := by omega
            have hb2 : (Lis.sel l i).length + 1 ≤ maxLen := by unfold maxLen; omega
            have wm : IntKind.i64.wrap (Lis.most l - ((Lis.sel l i).length : Int) - 1) = Lis.most l - (((Lis.sel l i).length + 1 : Nat) : Int) := by rw [wrapI (by omega)]; omega
            have fin : (Lis.sel l i = [] ∨ l.getD ((Lis.sel l i).getLastD 0) 0 < l.getD i 0) → Lis.sel l (i + 1) = Lis.sel l i ++ [i] := by
              intro h; rw [hs]; unfold Lis.sel1; rw [if_pos ⟨by omega, c2, h⟩]
            have fin2 : ¬ (Lis.sel l i = [] ∨ l.getD ((Lis.sel l i).getLastD 0) 0 < l.getD i 0) → Lis.sel l (i + 1) = Lis.sel l i := by
              intro h; rw [hs]; unfold Lis.sel1; rw [if_neg (fun h' => h h'.2.2)]
            by_cases c3 : Lis.sel l i = []
            · have c3' : ((Lis.sel l i).length : Int) = 0 := by rw [c3]; rfl
              rw [c3'] at c2
              have h7' : st.t 7 = .int .i64 (Lis.most l - 0) := by rw [h7, c3']
              (refine awp_seq_draw (by decide +kernel) fun K hK => ?_); (simp only [go_sem, Nat.reduceBEq, Bool.not_true, decide_true, reduceCtorEq, ne_eq, not_false_eq_true, List.length_map, Nat.reduceAdd, beq_self_eq_true, Int.toNat_natCast, Nat.mul_one, Int.natCast_nonneg, List.getElem?_map, h9, h4, hH, hin, hri, hrl, h7', c2, h3, c3']); (refine hK _ ?_); (clear hK K)
              refine awp_cond true rfl (fun _ => ?_) (fun hc => (by cases hc))
              (refine awp_seq_reg fun K hK => ?_); (simp only [go_sem, Nat.reduceBEq, Bool.not_false, reduceCtorEq, ne_eq, not_false_eq_true, Nat.reduceAdd, Nat.reduceMul, Nat.reduceLeDiff, Nat.reduceLT, List.length_cons, List.length_nil, beq_self_eq_true, Bool.and_true, or_true, Nat.mul_one, Nat.zero_add, h3, h9, hH0, hb1, hb2]); (refine hK _ ?_); (clear hK K)
              (refine awp_reg ?_); (simp only [go_sem, Nat.reduceBEq, beq_self_eq_true, h7, wm])
              refine (show K7 _ from tail _ h0 h4 hH ?_ h9 ?_ ?_)
              · rw [fin (.inl c3), List.length_append]; rfl
              · rw [fin (.inl c3), List.length_append]; rfl
              · rw [fin (.inl c3), List.length_append, List.map_append]; rfl
            · have hpos : 0 < (Lis.sel l i).length := List.length_pos_iff.2 c3
              have c3' : ¬ ((Lis.sel l i).length : Int) = 0 := by omega
              have wl : IntKind.i64.wrap (((Lis.sel l i).length : Int) - 1) = (((Lis.sel l i).length - 1 : Nat) : Int) := by rw [wrapI (by omega)]; omega
              have hcc : (((Lis.sel l i).length - 1 : Nat) : Int) < ((Lis.sel l i).length : Int) := by omega
              have hlast : (Lis.sel l i)[(Lis.sel l i).length - 1]? = some ((Lis.sel l i).getLastD 0) := by
                rw [List.getLastD_eq_getLast?, List.getLast?_eq_getElem?, List.getElem?_eq_getElem (by omega)]; rfl
              have hlt : (Lis.sel l i).getLastD 0 < l.length := by
                have := Lis.sel_lt l i _ (List.mem_of_getElem? hlast); omega
              have i2 := idxD_map (D.int .i64) l _ hlt
              have hle1 : (Lis.sel l i).length - 1 < (Lis.sel l i).length := by omega
              by_cases c4 : l[(Lis.sel l i).getLastD 0] < l[i]
              · (refine awp_seq_draw (by decide +kernel) fun K hK => ?_); (simp only [go_sem, Nat.reduceBEq, decide_true, decide_false, reduceCtorEq, ne_eq, not_false_eq_true, List.length_map, Nat.reduceAdd, beq_self_eq_true, Int.toNat_natCast, Nat.mul_one, Int.natCast_nonneg, List.getElem?_map, h9, h4, hH, hin, hri, hrl, h7, c2, h3, c3', h0, encI, i1, i2, wl, hcc, hH0, hlast, c4]); (refine hK _ ?_); (clear hK K)
                have c4' : l.getD ((Lis.sel l i).getLastD 0) 0 < l.getD i 0 := by
                  rw [List.getD_eq_getElem?_getD, List.getD_eq_getElem?_getD, List.getElem?_eq_getElem hlt, List.getElem?_eq_getElem c0]
                  exact c4
                refine awp_cond true rfl (fun _ => ?_) (fun hc => (by cases hc))
                (refine awp_seq_reg fun K hK => ?_); (simp only [go_sem, Nat.reduceBEq, Bool.not_false, reduceCtorEq, ne_eq, not_false_eq_true, Nat.reduceAdd, Nat.reduceMul, Nat.reduceLeDiff, Nat.reduceLT, List.length_cons, List.length_nil, beq_self_eq_true, Bool.and_true, or_true, Nat.mul_one, Nat.zero_add, h3, h9, hH0, hb1, hb2]); (refine hK _ ?_); (clear hK K)
                (refine awp_reg ?_); (simp only [go_sem, Nat.reduceBEq, beq_self_eq_true, h7, wm])
                refine (show K7 _ from tail _ h0 h4 hH ?_ h9 ?_ ?_)
                · rw [fin (.inr c4'), List.length_append]; rfl
                · rw [fin (.inr c4'), List.length_append]; rfl
                · rw [fin (.inr c4'), List.length_append, List.map_append]; rfl
              · (refine awp_seq_draw (by decide +kernel) fun K hK => ?_); (simp only [go_sem, Nat.reduceBEq, decide_true, decide_false, reduceCtorEq, ne_eq, not_false_eq_true, List.length_map, Nat.reduceAdd, beq_self_eq_true, Int.toNat_natCast, Nat.mul_one, Int.natCast_nonneg, List.getElem?_map, h9, h4, hH, hin, hri, hrl, h7, c2, h3, c3', h0, encI, i1, i2, wl, hcc, hH0, hlast, c4]); (refine hK _ ?_); (clear hK K)
                refine awp_cond false rfl (fun hc => (by cases hc)) (fun _ => ?_)
                have c4' : ¬ (Lis.sel l i = [] ∨ l.getD ((Lis.sel l i).getLastD 0) 0 < l.getD i 0) := by
                  rintro (h | h)
                  · exact c3 h
                  · apply c4
                    rw [List.getD_eq_getElem?_getD, List.getD_eq_getElem?_getD, List.getElem?_eq_getElem hlt, List.getElem?_eq_getElem c0] at h
                    exact h
                refine awp_skip ?_
                refine tail _ h0 h4 hH ?_ h9 ?_ ?_ <;> rw [fin2 c4']
                · exact h7
                · exact h3
                · exact hH0
          · (refine awp_seq_draw (by decide +kernel) fun K hK => ?_); (simp only [go_sem, Nat.reduceBEq, decide_false, reduceCtorEq, ne_eq, not_false_eq_true, List.length_map, Nat.reduceAdd, beq_self_eq_true, Int.toNat_natCast, Nat.mul_one, Int.natCast_nonneg, List.getElem?_map, h9, h4, hH, hin, hri, hrl, h7, c2]); (refine hK _ ?_); (clear hK K)
            refine awp_cond false rfl (fun hc => (by cases hc)) (fun _ => ?_)
            refine awp_skip ?_
            have fin2 : Lis.sel l (i + 1) = Lis.sel l i := by rw [hs]; unfold Lis.sel1; rw [if_neg (fun h => c2 h.2.1)]
            refine tail _ h0 h4 hH ?_ h9 ?_ ?_ <;> rw [fin2]
            · exact h7
            · exact h3
            · exact hH0
        · (refine awp_seq_reg fun K hK => ?_); (simp only [go_sem, Nat.reduceBEq, decide_true, decide_false, List.length_map, beq_self_eq_true, h9, h0, encI, hin, h7, c1]); (refine hK _ ?_); (clear hK K)
          refine awp_seq fun K6 hK6 => ?_
          refine awp_cond false rfl (fun hc => (by cases hc)) (fun _ => ?_)
          refine awp_exit (show K5 _ from fin _ ?_ h3 hH0)
          have := Lis.sel_stop l i (by omega) (l.length - i)
          rw [← this]; congr 1; omega
      · obtain rfl : i = l.length := by omega
        have hin : ¬ (l.length : Int) < (l.length : Int) := by omega
        (refine awp_seq_reg fun K hK => ?_); (simp only [go_sem, Nat.reduceBEq, decide_false, List.length_map, beq_self_eq_true, h9, h0, encI, hin]); (refine hK _ ?_); (clear hK K)
        refine awp_seq fun K6 hK6 => ?_
        refine awp_cond false rfl (fun hc => (by cases hc)) (fun _ => ?_)
        exact awp_exit (show K5 _ from fin _ rfl h3 hH0)
end Go.Proofs.Ytophkniaaifmiaa
