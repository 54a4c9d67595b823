/- the walk of lcs.LongestIncreasing -/
import Derived.Test.YtophkniaaifmiaaFacts
import Derived.Test.YtophkniaaifmiaaLis
namespace Go.Proofs.Ytophkniaaifmiaa
open Abs Facts
attribute [local irreducible] awp
theorem map_set' {α β : Type} (f : α → β) (l : List α) (i : Nat) (x : α) : (l.map f).set i (f x) = (l.set i x).map f := by simp
set_option maxRecDepth 100000 in
set_option maxHeartbeats 2000000 in
theorem pc11 (l : List Int) (hl : l.length ≤ maxLen) : PC Try.prog 11 [encI l] (encI ((Lis.lis l).map fun (n : Nat) => (n : Int))) := by
  unfold maxLen at hl
  refine PC_intro 2 (by simp only [pureD.pureL, pure_encI, Bool.and_self]) (pure_encI _) (AC_intro [7] Try.func11 rfl (by decide +kernel) mixed (by decide +kernel) (by simp [Try.ntmps11]) ?_)
  show awp _ _ (Code.seq _ _) _ _
  (refine awp_seq_reg fun K hK => ?_); (simp only [go_sem, Nat.reduceBEq, Nat.zero_add]); (refine hK _ ?_); (clear hK K)
  repeat refine awp_assoc ?_
  (refine awp_seq_reg fun K hK => ?_); (simp only [go_sem, Nat.reduceBEq, List.length_map, beq_self_eq_true, encI]); (refine hK _ ?_); (clear hK K)
  refine awp_seq fun K hK => ?_
  (refine awp_cond _ rfl (fun hc => ?_) (fun hc => ?_)) <;> (simp only [decide_eq_true_eq, decide_eq_false_iff_not] at hc)
  · (refine awp_seq_reg fun K hK => ?_); (simp only [go_sem, Nat.reduceBEq, Nat.zero_add]); (refine hK _ ?_); (clear hK K)
    (refine awp_ret ?_); (refine Exists.intro _ (And.intro rfl ?_))
    exact fin_nil (by simp only [Lis.lis]; rw [if_pos (by omega)]; rfl)
  refine awp_skip (hK _ ?_); clear hK K
  repeat refine awp_assoc ?_
  have g1 : (0 : Int) ≤ (l.length : Int) := by omega
  have g2 : l.length * 8 ≤ 140737488355328 := by omega
  have g3 : (l.length : Int) ≤ 9223372036854775807 := by omega
  (refine awp_seq_reg fun K hK => ?_); (simp only [go_sem, Nat.reduceBEq, List.length_map, Nat.reduceLT, beq_self_eq_true, Int.toNat_natCast, Nat.zero_add, Int.natCast_nonneg, g2, g3]); (refine hK _ ?_); (clear hK K)
  (refine awp_seq_reg fun K hK => ?_); (simp only [go_sem]); (refine hK _ ?_); (clear hK K)
  refine awp_seq fun K hK => ?_
  repeat refine awp_assoc ?_
  have w1 : IntKind.i64.wrap ((l.length : Int) - 1) = (l.length : Int) - 1 := wrapI (by omega)
  (refine awp_seq_reg fun K hK => ?_); (simp only [go_sem, Nat.reduceBEq, List.length_map, beq_self_eq_true, w1, flat_rep (D.int .i64) 0 l.length]); (refine hK _ ?_); (clear hK K)
  refine awp_block (awp_loop (fun n st => ∃ cs : List Int, n ≤ l.length ∧ st.t 0 = encI l ∧ st.t 3 = .osl 0 l.length ∧ st.H 0 = some (.row 3 l.length (cs.map (D.int .i64))) ∧ cs.length = l.length ∧
      cs.drop n = Lis.rows (l.drop n) ∧ st.t 5 = .int .i64 ((n : Int) - 1) ∧ st.t 4 = .int .i64 ((Lis.rows (l.drop n)).foldr max 0) ∧ st.nx = 1) l.length ?_ ?_)
  · exact ⟨List.replicate l.length 0, Nat.le_refl _, rfl, rfl, rfl, by simp, by simp [Lis.rows], rfl, by simp [Lis.rows]; rfl, rfl⟩
  rintro n st ⟨cs, hn, h0, h3, hH, hcl, hcd, h5, h4, hnx⟩
  repeat refine awp_assoc ?_
  (refine awp_seq_reg fun K hK => ?_); (simp only [go_sem, beq_self_eq_true, h5]); (refine hK _ ?_); (clear hK K)
  refine awp_seq fun K2 hK2 => ?_
  (refine awp_cond _ rfl (fun hc => ?_) (fun hc => ?_)) <;> (simp only [decide_eq_true_eq, decide_eq_false_iff_not] at hc)
  · obtain ⟨j, rfl⟩ : ∃ j, n = j + 1 := ⟨n - 1, by omega⟩
    have h5' : st.t 5 = .int .i64 (j : Int) := by rw [h5]; congr 1; omega
    refine awp_skip (hK2 _ ?_); clear hK2 K2 h5
    repeat refine awp_assoc ?_
    refine awp_seq fun K2 hK2 => ?_
    refine awp_block ?_
    repeat refine awp_assoc ?_
    have hj : (j : Int) < (l.length : Int) := by omega
    have hj2 : j + 1 ≤ l.length := by omega
    (refine awp_seq_reg fun K hK => ?_); (simp only [go_sem, Nat.reduceBEq, reduceCtorEq, ne_eq, not_false_eq_true, List.length_map, Nat.reduceLT, List.length_cons, List.length_nil, beq_self_eq_true, Int.toNat_natCast, Nat.mul_one, Nat.zero_add, Int.natCast_nonneg, h3, h5', hH, hj, hcl, hj2, map_set']); (refine hK _ ?_); (clear hK K)
    refine awp_seq fun K3 hK3 => ?_
    repeat refine awp_assoc ?_
    have wj : IntKind.i64.wrap ((j : Int) + 1) = ((j + 1 + 0 : Nat) : Int) := by rw [wrapI (by omega)]; omega
    (refine awp_seq_reg fun K hK => ?_); (simp only [go_sem, Nat.reduceBEq, beq_self_eq_true, Nat.add_zero, h5', wj]); (refine hK _ ?_); (clear hK K)
    refine awp_block (awp_loop (fun m st => ∃ (k : Nat) (cs : List Int), m = l.length - (j + 1 + k) ∧ j + 1 + k ≤ l.length ∧ st.t 0 = encI l ∧ st.t 3 = .osl 0 l.length ∧ st.H 0 = some (.row 3 l.length (cs.map (D.int .i64))) ∧ cs.length = l.length ∧
      cs.drop (j + 1) = Lis.rows (l.drop (j + 1)) ∧ st.t 5 = .int .i64 (j : Int) ∧ st.t 6 = .int .i64 ((j + 1 + k : Nat) : Int) ∧ cs[j]? = some (Lis.inner l j k) ∧ 1 ≤ Lis.inner l j k ∧ Lis.inner l j k ≤ l.length ∧ st.t 4 = .int .i64 ((Lis.rows (l.drop (j + 1))).foldr max 0) ∧ st.nx = 1) (l.length - (j + 1)) ?_ ?_)
    · refine ⟨0, cs.set j 1, rfl, hj2, h0, h3, rfl, by simpa using hcl, ?_, h5', rfl, ?_, by simp [Lis.inner_zero], by simp [Lis.inner_zero]; omega, h4, hnx⟩
      · rw [List.drop_set_of_lt (by omega)]; exact hcd
      · have : j < cs.length := by omega
        simp [Lis.inner_zero, this]
    clear hH hcd hcl h0 h3 h4 hnx h5' hn
    rintro m st ⟨k, cs, rfl, hk, h0, h3, hH, hcl, hcd, h5, h6, hcj, hi1, hi2, h4, hnx⟩
    repeat refine awp_assoc ?_
    (refine awp_seq_reg fun K hK => ?_); (simp only [go_sem, Nat.reduceBEq, List.length_map, beq_self_eq_true, h6, h0, encI]); (refine hK _ ?_); (clear hK K)
    refine awp_seq fun K4 hK4 => ?_
    (refine awp_cond _ rfl (fun hc => ?_) (fun hc => ?_)) <;> (simp only [decide_eq_true_eq, decide_eq_false_iff_not] at hc)
    · have hk' : j + 1 + k < l.length := by omega
      refine awp_skip (hK4 _ ?_); clear hK4 K4
      refine awp_seq fun K4 hK4 => ?_
      refine awp_block ?_
      repeat refine awp_assoc ?_
      have i1 := idxD_map (D.int .i64) l (j + 1 + k) hk'
      have i2 := idxD_map (D.int .i64) l j (by omega)
      (refine awp_seq_draw (by decide +kernel) fun K hK => ?_); (simp only [go_sem, Nat.reduceBEq, reduceCtorEq, ne_eq, not_false_eq_true, Nat.reduceAdd, beq_self_eq_true, h0, h5, h6, i1, i2, encI]); (refine hK _ ?_); (clear hK K)
      have hin := Lis.inner_succ l j k hk' cs hcl hcd
      have hle := Lis.rows_get_le l (j + 1 + k) cs hcl (j + 1) hcd (by omega) hk'
      (refine awp_cond _ rfl (fun hc => ?_) (fun hc => ?_)) <;> (simp only [decide_eq_true_eq, decide_eq_false_iff_not] at hc)
      · have wk : IntKind.i64.wrap (cs[j + 1 + k] + 1) = cs[j + 1 + k] + 1 := wrapI (by omega)
        have e1 : cs[j + 1 + k]? = some cs[j + 1 + k] := List.getElem?_eq_getElem (by omega)
        have hkn : ((j + 1 + k : Nat) : Int) < (l.length : Int) := by omega
        (refine awp_draw (by decide +kernel) ?_); (simp only [go_sem, Nat.reduceBEq, decide_true, reduceCtorEq, ne_eq, not_false_eq_true, List.length_map, Nat.reduceAdd, Nat.reduceLT, List.length_cons, List.length_nil, beq_self_eq_true, Int.toNat_natCast, Nat.mul_one, Nat.zero_add, Int.natCast_nonneg, List.getElem?_map, h3, h5, h6, hH, hj, hkn, hcl, hj2, e1, hcj, wk, map_set'])
        show K4 _
        have wk2 : IntKind.i64.wrap (((j + 1 + k : Nat) : Int) + 1) = ((j + 1 + (k + 1) : Nat) : Int) := by rw [wrapI (by omega)]; omega
        have e2 : Lis.inner l j (k + 1) = max (Lis.inner l j k) (cs[j + 1 + k] + 1) := by rw [hin]; unfold Lis.upd1; rw [if_pos hc]
        refine hK4 _ ?_
        (refine awp_reg ?_); (simp only [go_sem, Nat.reduceBEq, beq_self_eq_true, h6, wk2])
        refine ⟨l.length - (j + 1 + (k + 1)), by omega, k + 1, cs.set j (max (Lis.inner l j k) (cs[j + 1 + k] + 1)), rfl, by omega, h0, h3, rfl, by simpa using hcl, ?_, h5, rfl, ?_, by rw [e2]; omega, by rw [e2]; have := Lis.inner_le l j (k + 1) (by omega); rw [e2] at this; exact this, h4, hnx⟩
        · rw [List.drop_set_of_lt (by omega)]; exact hcd
        · rw [e2, List.getElem?_set_self (by omega)]
      · refine awp_skip (hK4 _ ?_); clear hK4 K4
        have wk : IntKind.i64.wrap (((j + 1 + k : Nat) : Int) + 1) = ((j + 1 + (k + 1) : Nat) : Int) := by rw [wrapI (by omega)]; omega
        have e2 : Lis.inner l j (k + 1) = Lis.inner l j k := by rw [hin]; unfold Lis.upd1; rw [if_neg hc]
        (refine awp_reg ?_); (simp only [go_sem, Nat.reduceBEq, beq_self_eq_true, h6, wk])
        exact ⟨l.length - (j + 1 + (k + 1)), by omega, k + 1, cs, rfl, by omega, h0, h3, hH, hcl, hcd, h5, rfl, by rw [e2]; exact hcj, by rw [e2]; exact hi1, by rw [e2]; exact hi2, h4, hnx⟩
    · refine awp_exit ?_
      show K3 _
      refine hK3 _ ?_
      have hkk : j + 1 + k = l.length := by omega
      (refine awp_reg ?_); (simp only [go_sem, Nat.reduceBEq, reduceCtorEq, ne_eq, not_false_eq_true, List.length_map, Nat.reduceAdd, beq_self_eq_true, Int.toNat_natCast, Nat.mul_one, Int.natCast_nonneg, List.getElem?_map, h4, h3, h5, hH, hj, hj2, hcl, hcj])
      refine (show K2 _ from hK2 _ ?_)
      have wj2 : IntKind.i64.wrap ((j : Int) - 1) = (j : Int) - 1 := wrapI (by omega)
      (refine awp_reg ?_); (simp only [go_sem, Nat.reduceBEq, beq_self_eq_true, h5, wj2])
      have hall := Lis.inner_all l j (by omega)
      have hk0 : l.length - (j + 1) = k := by omega
      rw [hk0] at hall
      refine ⟨j, by omega, cs, by omega, h0, h3, hH, hcl, ?_, rfl, ?_, hnx⟩
      · rw [hall, List.drop_eq_getElem_cons (by omega), hcd]
        congr 1
        rw [List.getElem?_eq_getElem (by omega)] at hcj
        exact Option.some.inj hcj
      · show D.int .i64 _ = D.int .i64 _
        rw [hall, List.foldr_cons, Int.max_comm]
  · refine awp_exit ?_
    refine (show K _ from hK _ ?_)
    obtain rfl : n = 0 := by omega
    simp only [List.drop_zero] at hcd h4
    subst hcd
    (refine awp_seq_reg fun K hK => ?_); (simp only [go_sem, Nat.reduceAdd, beq_self_eq_true, hnx]); (refine hK _ ?_); (clear hK K)
    repeat refine awp_assoc ?_
    (refine awp_seq_reg fun K hK => ?_); (simp only [go_sem, Nat.reduceBEq, List.length_map, beq_self_eq_true, h0, encI]); (refine hK _ ?_); (clear hK K)
    refine awp_seq fun K3 hK3 => ?_
    refine awp_block (awp_loop (fun n st => ∃ i : Nat, n = l.length - i ∧ i ≤ l.length ∧ st.t 0 = encI l ∧ st.t 3 = .osl 0 l.length ∧ st.H 0 = some (.row 3 l.length ((Lis.rows l).map (D.int .i64))) ∧
      st.t 4 = .int .i64 (Lis.most l) ∧ st.t 62 = .int .i64 l.length ∧ st.t 63 = .int .i64 i ∧ st.t 7 = .osl 1 (Lis.sel l i).length ∧ st.H 1 = some (.row 3 (Lis.sel l i).length ((Lis.sel l i).map fun (n : Nat) => D.int .i64 (n : Int)))) l.length ?_ ?_)
    · exact ⟨0, by omega, by omega, h0, h3, hH, h4, rfl, rfl, rfl, rfl⟩
    clear h0 h3 hH h4 h5 hnx
    rintro n st ⟨i, rfl, hi, h0, h3, hH, h4, h62, h63, h7, hH1⟩
    repeat refine awp_assoc ?_
    (refine awp_seq_reg fun K hK => ?_); (simp only [go_sem, h63, h62]); (refine hK _ ?_); (clear hK K)
    refine awp_seq fun K4 hK4 => ?_
    (refine awp_cond _ rfl (fun hc => ?_) (fun hc => ?_)) <;> (simp only [decide_eq_true_eq, decide_eq_false_iff_not] at hc)
    · have hi' : i < l.length := by omega
      refine awp_skip (hK4 _ ?_)
      refine awp_seq fun K5 hK5 => ?_
      refine awp_block ?_
      repeat refine awp_assoc ?_
      (refine awp_seq_reg fun K hK => ?_); (simp only [go_sem, Nat.reduceBEq, beq_self_eq_true, h63]); (refine hK _ ?_); (clear hK K)
      have hs := Lis.sel_succ l i
      have hrl := Lis.rows_length l
      have hri : (Lis.rows l)[i]? = some ((Lis.rows l).getD i 0) := by rw [List.getD_eq_getElem?_getD, List.getElem?_eq_getElem (by omega)]; rfl
      have i1 := idxD_map (D.int .i64) l i hi'
      have hin : (i : Int) < (l.length : Int) := by omega
      have tail : ∀ st' : St, st'.t 0 = encI l → st'.t 3 = .osl 0 l.length → st'.H 0 = some (.row 3 l.length ((Lis.rows l).map (D.int .i64))) → st'.t 4 = .int .i64 (Lis.most l) → st'.t 62 = .int .i64 l.length → st'.t 63 = .int .i64 i →
          st'.t 7 = .osl 1 (Lis.sel l (i + 1)).length → st'.H 1 = some (.row 3 (Lis.sel l (i + 1)).length ((Lis.sel l (i + 1)).map fun (n : Nat) => D.int .i64 (n : Int))) → K5 st' := by
        intro st' h0 h3 hH h4 h62 h63 h7 hH1
        refine hK5 _ ?_
        have wi : IntKind.i64.wrap ((i : Int) + 1) = ((i + 1 : Nat) : Int) := by rw [wrapI (by omega)]; omega
        (refine awp_reg ?_); (simp only [go_sem, beq_self_eq_true, h63, wi])
        exact ⟨l.length - (i + 1), by omega, i + 1, rfl, by omega, h0, h3, hH, h4, h62, rfl, h7, hH1⟩
      have hmb := Lis.most_bd l
      have hsl := Lis.sel_len l i
      by_cases c1 : ((Lis.sel l i).length : Int) < Lis.most l
      · have wm : IntKind.i64.wrap (Lis.most l - ((Lis.sel l i).length : Int)) = Lis.most l - ((Lis.sel l i).length : Int) := wrapI (by omega)
        by_cases c2 : (Lis.rows l).getD i 0 = Lis.most l - ((Lis.sel l i).length : Int)
        · have hb1 : ((Lis.sel l i).length + 1) * 8 ≤ 140737488355328 := by omega
          have hb2 : (Lis.sel l i).length + 1 ≤ maxLen := by unfold maxLen; omega
          have fin : (Lis.sel l i = [] ∨ l.getD ((Lis.sel l i).getLastD 0) 0 < l.getD i 0) → Lis.sel l (i + 1) = Lis.sel l i ++ [i] := by
            intro h; rw [hs]; unfold Lis.sel1; rw [if_pos ⟨c1, c2, h⟩]
          have fin2 : ¬ (Lis.sel l i = [] ∨ l.getD ((Lis.sel l i).getLastD 0) 0 < l.getD i 0) → Lis.sel l (i + 1) = Lis.sel l i := by
            intro h; rw [hs]; unfold Lis.sel1; rw [if_neg (fun h' => h h'.2.2)]
          by_cases c3 : Lis.sel l i = []
          · have c3' : ((Lis.sel l i).length : Int) = 0 := by rw [c3]; rfl
            rw [c3'] at c1 c2 wm
            (refine awp_seq_draw (by decide +kernel) fun K hK => ?_); (simp only [go_sem, Nat.reduceBEq, Bool.not_true, decide_true, reduceCtorEq, ne_eq, not_false_eq_true, List.length_map, Nat.reduceAdd, beq_self_eq_true, Int.toNat_natCast, Nat.mul_one, Int.natCast_nonneg, List.getElem?_map, h7, h4, c1, h3, hH, hin, hrl, hri, wm, c2, c3']); (refine hK _ ?_); (clear hK K)
            refine awp_cond true rfl (fun _ => ?_) (fun hc => (by cases hc))
            (refine awp_reg ?_); (simp only [go_sem, Nat.reduceBEq, Bool.not_false, reduceCtorEq, ne_eq, not_false_eq_true, Nat.reduceAdd, Nat.reduceMul, Nat.reduceLeDiff, Nat.reduceLT, List.length_cons, List.length_nil, beq_self_eq_true, Bool.and_true, or_true, Nat.mul_one, Nat.zero_add, h7, hH1, hb1, hb2])
            refine (show K5 _ from tail _ h0 h3 hH h4 h62 h63 ?_ ?_)
            · rw [fin (.inl c3), List.length_append]; rfl
            · rw [fin (.inl c3), List.length_append, List.map_append]; rfl
          · have hpos : 0 < (Lis.sel l i).length := List.length_pos_iff.2 c3
            have c3' : ¬ ((Lis.sel l i).length : Int) = 0 := by omega
            have wl : IntKind.i64.wrap (((Lis.sel l i).length : Int) - 1) = (((Lis.sel l i).length - 1 : Nat) : Int) := by rw [wrapI (by omega)]; omega
            have hcc : (((Lis.sel l i).length - 1 : Nat) : Int) < ((Lis.sel l i).length : Int) := by omega
            have hlast : (Lis.sel l i)[(Lis.sel l i).length - 1]? = some ((Lis.sel l i).getLastD 0) := by
              rw [List.getLastD_eq_getLast?, List.getLast?_eq_getElem?, List.getElem?_eq_getElem (by omega)]; rfl
            have hlt : (Lis.sel l i).getLastD 0 < l.length := by
              have := Lis.sel_lt l i _ (List.mem_of_getElem? hlast); omega
            have i2 := idxD_map (D.int .i64) l _ hlt
            have hle1 : (Lis.sel l i).length - 1 < (Lis.sel l i).length := by omega
            by_cases c4 : l[(Lis.sel l i).getLastD 0] < l[i]
            · (refine awp_seq_draw (by decide +kernel) fun K hK => ?_); (simp only [go_sem, Nat.reduceBEq, decide_true, decide_false, reduceCtorEq, ne_eq, not_false_eq_true, List.length_map, Nat.reduceAdd, beq_self_eq_true, Int.toNat_natCast, Nat.mul_one, Int.natCast_nonneg, List.getElem?_map, h7, h4, c1, h3, hH, hin, hrl, hri, wm, c2, c3', h0, encI, i1, i2, wl, hcc, hH1, hlast, c4]); (refine hK _ ?_); (clear hK K)
              have c4' : l.getD ((Lis.sel l i).getLastD 0) 0 < l.getD i 0 := by
                rw [List.getD_eq_getElem?_getD, List.getD_eq_getElem?_getD, List.getElem?_eq_getElem hlt, List.getElem?_eq_getElem hi']
                exact c4
              refine awp_cond true rfl (fun _ => ?_) (fun hc => (by cases hc))
              (refine awp_reg ?_); (simp only [go_sem, Nat.reduceBEq, Bool.not_false, reduceCtorEq, ne_eq, not_false_eq_true, Nat.reduceAdd, Nat.reduceMul, Nat.reduceLeDiff, Nat.reduceLT, List.length_cons, List.length_nil, beq_self_eq_true, Bool.and_true, or_true, Nat.mul_one, Nat.zero_add, h7, hH1, hb1, hb2])
              refine (show K5 _ from tail _ h0 h3 hH h4 h62 h63 ?_ ?_)
              · rw [fin (.inr c4'), List.length_append]; rfl
              · rw [fin (.inr c4'), List.length_append, List.map_append]; rfl
            · (refine awp_seq_draw (by decide +kernel) fun K hK => ?_); (simp only [go_sem, Nat.reduceBEq, decide_true, decide_false, reduceCtorEq, ne_eq, not_false_eq_true, List.length_map, Nat.reduceAdd, beq_self_eq_true, Int.toNat_natCast, Nat.mul_one, Int.natCast_nonneg, List.getElem?_map, h7, h4, c1, h3, hH, hin, hrl, hri, wm, c2, c3', h0, encI, i1, i2, wl, hcc, hH1, hlast, c4]); (refine hK _ ?_); (clear hK K)
              refine awp_cond false rfl (fun hc => (by cases hc)) (fun _ => ?_)
              have c4' : ¬ (Lis.sel l i = [] ∨ l.getD ((Lis.sel l i).getLastD 0) 0 < l.getD i 0) := by
                rintro (h | h)
                · exact c3 h
                · apply c4
                  rw [List.getD_eq_getElem?_getD, List.getD_eq_getElem?_getD, List.getElem?_eq_getElem hlt, List.getElem?_eq_getElem hi'] at h
                  exact h
              refine awp_skip ?_
              refine tail _ h0 h3 hH h4 h62 h63 ?_ ?_
              · rw [fin2 c4']; exact h7
              · rw [fin2 c4']; exact hH1
        · (refine awp_seq_draw (by decide +kernel) fun K hK => ?_); (simp only [go_sem, Nat.reduceBEq, decide_true, decide_false, reduceCtorEq, ne_eq, not_false_eq_true, List.length_map, Nat.reduceAdd, beq_self_eq_true, Int.toNat_natCast, Nat.mul_one, Int.natCast_nonneg, List.getElem?_map, h7, h4, c1, h3, hH, hin, hrl, hri, wm, c2]); (refine hK _ ?_); (clear hK K)
          refine awp_cond false rfl (fun hc => (by cases hc)) (fun _ => ?_)
          refine awp_skip ?_
          refine tail _ h0 h3 hH h4 h62 h63 ?_ ?_
          · rw [hs]; unfold Lis.sel1; rw [if_neg (fun h => c2 h.2.1)]; exact h7
          · rw [hs]; unfold Lis.sel1; rw [if_neg (fun h => c2 h.2.1)]; exact hH1
      · (refine awp_seq_draw (by decide +kernel) fun K hK => ?_); (simp only [go_sem, Nat.reduceBEq, decide_false, beq_self_eq_true, h7, h4, c1]); (refine hK _ ?_); (clear hK K)
        refine awp_cond false rfl (fun hc => (by cases hc)) (fun _ => ?_)
        refine awp_skip ?_
        refine tail _ h0 h3 hH h4 h62 h63 ?_ ?_
        · rw [hs]; unfold Lis.sel1; rw [if_neg (fun h => c1 h.1)]; exact h7
        · rw [hs]; unfold Lis.sel1; rw [if_neg (fun h => c1 h.1)]; exact hH1
    · refine awp_exit ?_
      show K3 _
      refine hK3 _ ?_
      (refine awp_seq_reg fun K hK => ?_); (simp only [go_sem, Nat.reduceBEq, beq_self_eq_true, h7]); (refine hK _ ?_); (clear hK K)
      (refine awp_ret ?_); (refine Exists.intro _ (And.intro rfl ?_))
      obtain rfl : i = l.length := by omega
      refine fin_row 0 hH1 isAggT3 sizeT3 (by simp) (pureL_map (fun _ => rfl) _) ?_
      simp only [Lis.lis]
      rw [if_neg (by omega), List.map_map]
      rfl
end Go.Proofs.Ytophkniaaifmiaa
