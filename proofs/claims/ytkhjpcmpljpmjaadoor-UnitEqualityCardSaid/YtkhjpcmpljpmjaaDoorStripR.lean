/-
  The walks of the reference's Strip and Bare. What Valid and IsBare give. No condition but lengths.
-/
import Derived.Test.YtkhjpcmpljpmjaaDoorRefV
import Derived.Test.YtkhjpcmpljpmjaaDoorValid
import Derived.Test.YtkhjpcmpljpmjaaDoorEqual
import Derived.Test.YtkhjpcmpljpmjaaDoorFlat
namespace Go.Proofs.YtkhjpcmpljpmjaaDoor
open Abs Facts Tr
attribute [local irreducible] awp
namespace Tr
def bareW (w : Wd) : Wd := ⟨w.text, Idv.zero⟩
def stripT (t : T) : T := recT (fun t l => .mk Idv.zero t.kind t.label (t.head.map bareW) (t.words.map bareW) l) t
theorem stripT_eq (t : T) : stripT t = .mk Idv.zero t.kind t.label (t.head.map bareW) (t.words.map bareW) (t.kids.map stripT) := by unfold stripT; rw [recT_eq]
theorem sz_strip : ∀ t : T, szB t = true → szB (stripT t) = true := by
  refine ind1 fun t ih h => ?_
  obtain ⟨h0, h1, h2, h3, h4, h5, h6⟩ := (sz_iff t).1 h
  rw [stripT_eq, sz_iff]
  refine ⟨h0, (show (t.head.map bareW).length ≤ _ by simpa using h1), fun w hw => ?_, (show (t.words.map bareW).length ≤ _ by simpa using h3), fun w hw => ?_, (show (t.kids.map stripT).length ≤ _ by simpa using h5), fun k hk => ?_⟩
  · obtain ⟨x, hx, rfl⟩ := List.mem_map.1 hw; exact h2 x hx
  · obtain ⟨x, hx, rfl⟩ := List.mem_map.1 hw; exact h4 x hx
  · obtain ⟨x, hx, rfl⟩ := List.mem_map.1 hk; exact ih x hx (h6 x hx)
end Tr
set_option maxRecDepth 100000 in
set_option maxHeartbeats 8000000 in
theorem pc_StripR : ∀ t : T, szB t = true → PC Tryd.prog 36 [encU t] (encU (stripT t)) := by
  refine ind1 fun t ih hs => ?_
  obtain ⟨h0, h1, g1, h2, g2, h3, h4⟩ := (sz_iff t).1 hs
  have b1 : PC Tryd.prog 61 [encWs t.head] (encWs (t.head.map bareW)) := pc_Bared t.head h1
  have b2 : PC Tryd.prog 61 [encWs t.words] (encWs (t.words.map bareW)) := pc_Bared t.words h2
  rw [stripT_eq]
  refine PC_intro 4 (by simp only [pureD.pureL, pure_encU, Bool.and_self]) (pure_encU _) (AC_intro [3000006, 3000008, 3000010, 5000011, 3000013, 5000014] Tryd.func36 rfl (by decide +kernel) mixed (by decide +kernel) (by simp [Tryd.ntmps36]) ?_)
  show awp _ _ (Code.seq _ _) _ _
  rw [show Tryd.f36.results.toList = [.cell 2 27] from rfl]
  skip
  repeat' (first | refine awp_assoc ?_ | ((first | refine awp_seq_regX (N := 2) rfl fun K hK => ?_ | refine awp_seq_drawX (N := 2) rfl (by decide +kernel) fun K hK => ?_); (simp (disch := omega) only [go_sem, Nat.reduceBEq, reduceCtorEq, Nat.reduceAdd, Nat.reduceLeDiff, encWs])) | ((first | refine awp_seq_cond _ rfl (fun hc => ?_) (fun hc => ?_) | refine awp_cond _ rfl (fun hc => ?_) (fun hc => ?_)) <;> (first | (cases hc; done) | ((try simp only [decide_eq_true_eq, decide_eq_false_iff_not, Classical.not_not, beq_iff_eq, beq_eq_false_iff_ne, bne_iff_ne, ne_eq, Bool.not_eq_true', Bool.not_eq_false', Bool.and_eq_true, Bool.or_eq_true, Bool.and_eq_false_imp, Bool.or_eq_false_iff, Bool.not_eq_true, Bool.not_eq_false] at hc); (try (exfalso; omega))))) | refine awp_seq_block ?_ | refine awp_block ?_ | refine awp_seq_skip ?_ | refine awp_seq_ret ?_ | refine awp_seq_exit ?_ | refine awp_skip ?_ | refine awp_exit ?_ | refine awp_ret ?_ | refine seqK_n ?_ | refine seqK_e ?_ | refine seqK_r ?_ | refine blkK_n ?_ | refine blkK_e ?_ | refine blkK_o rfl ?_ | refine blkK_r ?_ | refine loopK_e ?_ | refine loopK_r ?_ | (first | refine retQ_K (by (simp (disch := omega) only [go_sem]); rfl) ?_ | refine retQ_K' (by (simp (disch := omega) only [go_sem]); rfl) ?_) | (refine hK _ ?_; clear hK K) | ((first | refine callW_pc (b1) ?_ | refine callD_pc (b1) ?_); (simp (disch := omega) only [go_sem, Nat.reduceBEq, reduceCtorEq, Nat.reduceAdd, Nat.reduceLeDiff, encWs])) | ((first | refine callW_pc (b2) ?_ | refine callD_pc (b2) ?_); (simp (disch := omega) only [go_sem, Nat.reduceBEq, Nat.reduceAdd, Nat.reduceLeDiff, encWs])) | (refine stepG_split (fun hb => ?_) (fun hb => ?_) <;> (have hb2 := hb; try simp only [decide_eq_true_eq, decide_eq_false_iff_not, Classical.not_not, beq_iff_eq, beq_eq_false_iff_ne, bne_iff_ne, ne_eq, Bool.not_eq_true', Bool.not_eq_false', Bool.and_eq_true, Bool.or_eq_true, Bool.and_eq_false_imp, Bool.or_eq_false_iff, Bool.not_eq_true, Bool.not_eq_false] at hb2) <;> ((first | have hb3 : (_ : Bool) = _ := hb2 | have hb3 := eq_false hb2 | have hb3 := eq_true hb2); (simp (disch := omega) only [go_sem, Nat.reduceBEq, Nat.reduceBeqDiff, Nat.reduceEqDiff, reduceIte, reduceCtorEq, Nat.reduceAdd, Nat.reduceMul, Nat.reduceLeDiff, Nat.reduceLT, Int.reduceLT, Int.reduceLE, Int.reduceEq, hb, hb3, encWs]); clear hb hb3; (try (exfalso; omega)))) | (exfalso; omega))
  refine awp_seq_seal fun K hK => ?_
  (simp (disch := omega) only [go_sem])
  refine hK _ _ (nilcell_to (b := 2) (off := 7) (e := 27) 27 (by (simp (disch := omega) only [go_sem, Nat.reduceBEq]); rfl) rfl) ?_
  clear hK K
  repeat' (first | refine awp_assoc ?_ | ((first | refine awp_seq_reg fun K hK => ?_ | refine awp_seq_draw (by decide +kernel) fun K hK => ?_ | refine awp_reg' fun K hK => ?_ | refine awp_draw' (by decide +kernel) fun K hK => ?_); (simp (disch := omega) only [go_sem, Nat.reduceBEq, Nat.reduceBeqDiff, Nat.reduceEqDiff, reduceIte, reduceCtorEq, Nat.reduceAdd, Nat.reduceMul, Nat.reduceLeDiff, Nat.reduceLT, Int.reduceLT, Int.reduceLE, Int.reduceEq, encWs, List.set_cons_succ, List.set_cons_zero])) | ((first | refine awp_seq_cond _ rfl (fun hc => ?_) (fun hc => ?_) | refine awp_cond _ rfl (fun hc => ?_) (fun hc => ?_)) <;> (first | (cases hc; done) | ((try simp only [decide_eq_true_eq, decide_eq_false_iff_not, Classical.not_not, beq_iff_eq, beq_eq_false_iff_ne, bne_iff_ne, ne_eq, Bool.not_eq_true', Bool.not_eq_false', Bool.and_eq_true, Bool.or_eq_true, Bool.and_eq_false_imp, Bool.or_eq_false_iff, Bool.not_eq_true, Bool.not_eq_false] at hc); (try (exfalso; omega))))) | refine awp_seq_block ?_ | refine awp_block ?_ | refine awp_seq_skip ?_ | refine awp_seq_ret ?_ | refine awp_seq_exit ?_ | refine awp_skip ?_ | refine awp_exit ?_ | refine awp_ret ?_ | refine seqK_n ?_ | refine seqK_e ?_ | refine seqK_r ?_ | refine blkK_n ?_ | refine blkK_e ?_ | refine blkK_o rfl ?_ | refine blkK_r ?_ | refine loopK_e ?_ | refine loopK_r ?_ | (first | refine retQ_K (by (simp (disch := omega) only [go_sem]); rfl) ?_ | refine retQ_K' (by (simp (disch := omega) only [go_sem]); rfl) ?_) | (refine hK _ ?_; clear hK K) | (refine stepG_split (fun hb => ?_) (fun hb => ?_) <;> (have hb2 := hb; try simp only [decide_eq_true_eq, decide_eq_false_iff_not, Classical.not_not, beq_iff_eq, beq_eq_false_iff_ne, bne_iff_ne, ne_eq, Bool.not_eq_true', Bool.not_eq_false', Bool.and_eq_true, Bool.or_eq_true, Bool.and_eq_false_imp, Bool.or_eq_false_iff, Bool.not_eq_true, Bool.not_eq_false] at hb2) <;> ((first | have hb3 : (_ : Bool) = _ := hb2 | have hb3 := eq_false hb2 | have hb3 := eq_true hb2); (simp (disch := omega) only [go_sem, Nat.reduceBEq, Nat.reduceBeqDiff, Nat.reduceEqDiff, reduceIte, reduceCtorEq, Nat.reduceAdd, Nat.reduceMul, Nat.reduceLeDiff, Nat.reduceLT, Int.reduceLT, Int.reduceLE, Int.reduceEq, hb, hb3, encWs, List.set_cons_succ, List.set_cons_zero]); clear hb hb3; (try (exfalso; omega)))) | (exfalso; omega))
  (refine awp_loop' (fun mz st => ∃ (i : _), mz = t.kids.length - i ∧ st.t 1 = .ptr 0 0 ∧ st.t 2 = .ptr 1 0 ∧ st.t 3 = .ptr 2 0 ∧ st.t 4 = .int .i64 i ∧ st.H 0 = some (.box 27 (cellsU t)) ∧ st.H 1 = some (.box 27 [.int .i64 0, .int .i64 0, .int .i64 0, .int .i64 0, .str ByteArray.empty, .nil, .nil, .nil]) ∧ st.H 2 = some (.box 27 [.int .i64 0, .int .i64 0, .int .i64 0, .int .i64 t.kind, .str t.label, encWs (t.head.map bareW), encWs (t.words.map bareW), .osl 3 i]) ∧ st.H 3 = some (.row 27 i (((t.kids.take i).map stripT).flatMap cellsU)) ∧ (i ≤ t.kids.length) ∧ (4 ≤ st.nx)) ?_ ?_); rotate_left; (rintro mz st ⟨i, rfl, q1, q2, q3, q4, qH0, qH1, qH2, qH3, qp0, qp1⟩); rotate_left
  · (refine ⟨_, 0, rfl, ?_⟩); (simp (disch := omega) only [go_sem, Nat.reduceBEq, Nat.reduceAdd, Nat.reduceLeDiff, and_self, Int.natCast_zero, List.flatMap_nil, List.map_nil, encWs, List.set_cons_succ, List.set_cons_zero])
  by_cases hi : i < t.kids.length
  · have hin := ih t.kids[i] (List.getElem_mem hi) (h4 _ (List.getElem_mem hi))
    have htk := List.take_succ_eq_append_getElem hi
    repeat' (first | refine awp_assoc ?_ | ((first | refine awp_seq_reg fun K hK => ?_ | refine awp_seq_draw (by decide +kernel) fun K hK => ?_ | refine awp_reg' fun K hK => ?_ | refine awp_draw' (by decide +kernel) fun K hK => ?_); (simp (disch := omega) only [go_sem, Nat.reduceBEq, reduceCtorEq, Nat.reduceAdd, Nat.reduceLeDiff, q1, q3, q4, qH0, qH2, encUs])) | ((first | refine awp_seq_cond _ rfl (fun hc => ?_) (fun hc => ?_) | refine awp_cond _ rfl (fun hc => ?_) (fun hc => ?_)) <;> (first | (cases hc; done) | ((try simp only [decide_eq_true_eq, decide_eq_false_iff_not] at hc); (try (exfalso; omega))))) | refine awp_seq_block ?_ | refine awp_block ?_ | refine awp_seq_skip ?_ | refine awp_seq_ret ?_ | refine awp_seq_exit ?_ | refine awp_skip ?_ | refine awp_exit ?_ | refine awp_ret ?_ | refine seqK_n ?_ | refine seqK_e ?_ | refine seqK_r ?_ | refine blkK_n ?_ | refine blkK_e ?_ | refine blkK_o rfl ?_ | refine blkK_r ?_ | refine loopK_e ?_ | refine loopK_r ?_ | (first | refine retQ_K (by (simp (disch := omega) only [go_sem]); rfl) ?_ | refine retQ_K' (by (simp (disch := omega) only [go_sem]); rfl) ?_) | (refine hK _ ?_; clear hK K) | ((first | refine callW_pc (hin) ?_ | refine callD_pc (hin) ?_); (simp (disch := omega) only [go_sem, Nat.reduceBEq, reduceCtorEq, Nat.reduceAdd, Nat.reduceMul, Nat.reduceLeDiff, Nat.reduceLT, q3, qH2, qH3])) | (refine stepG_split (fun hb => ?_) (fun hb => ?_) <;> (have hb2 := hb; try simp only [decide_eq_true_eq, decide_eq_false_iff_not, Classical.not_not, beq_iff_eq, beq_eq_false_iff_ne, bne_iff_ne, ne_eq, Bool.not_eq_true', Bool.not_eq_false', Bool.and_eq_true, Bool.or_eq_true, Bool.and_eq_false_imp, Bool.or_eq_false_iff, Bool.not_eq_true, Bool.not_eq_false] at hb2) <;> ((first | have hb3 : (_ : Bool) = _ := hb2 | have hb3 := eq_false hb2 | have hb3 := eq_true hb2); (simp (disch := omega) only [go_sem, Nat.reduceBEq, Nat.reduceBeqDiff, Nat.reduceEqDiff, reduceIte, reduceCtorEq, Nat.reduceAdd, Nat.reduceMul, Nat.reduceLeDiff, Nat.reduceLT, Int.reduceLT, Int.reduceLE, Int.reduceEq, hb, hb3, q1, q2, q3, q4, qH0, qH1, qH2, qH3, encUs, cellsAll_encU]); clear hb hb3; (try (exfalso; omega)))) | (exfalso; omega))
    (refine Exists.intro _ (And.intro ?_ ⟨i + 1, rfl, ?_⟩)); rotate_left; (simp (disch := omega) only [go_sem, Nat.reduceBEq, q1, q2, q3, q4, qH0, qH1, qH2, qH3, true_and, Int.natCast_add, Int.natCast_one, List.flatMap_append, List.flatMap_cons, List.flatMap_nil, List.map_append, List.map_cons, List.map_nil, List.append_nil, htk]); rotate_left
    · omega
    · omega
  · repeat' (first | refine awp_assoc ?_ | ((first | refine awp_seq_reg fun K hK => ?_ | refine awp_seq_draw (by decide +kernel) fun K hK => ?_ | refine awp_reg' fun K hK => ?_ | refine awp_draw' (by decide +kernel) fun K hK => ?_); (simp (disch := omega) only [go_sem, Nat.reduceBEq, reduceCtorEq, Nat.reduceAdd, Nat.reduceLeDiff, q1, q2, q3, q4, qH0, qH1, qH2, encUs])) | ((first | refine awp_seq_cond _ rfl (fun hc => ?_) (fun hc => ?_) | refine awp_cond _ rfl (fun hc => ?_) (fun hc => ?_)) <;> (first | (cases hc; done) | ((try simp only [decide_eq_true_eq, decide_eq_false_iff_not] at hc); (try (exfalso; omega))))) | refine awp_seq_block ?_ | refine awp_block ?_ | refine awp_seq_skip ?_ | refine awp_seq_ret ?_ | refine awp_seq_exit ?_ | refine awp_skip ?_ | refine awp_exit ?_ | refine awp_ret ?_ | refine seqK_n ?_ | refine seqK_e ?_ | refine seqK_r ?_ | refine blkK_n ?_ | refine blkK_e ?_ | refine blkK_o rfl ?_ | refine blkK_r ?_ | refine loopK_e ?_ | refine loopK_r ?_ | (first | refine retQ_K (by (simp (disch := omega) only [go_sem, Nat.reduceBEq, Nat.reduceAdd, Nat.reduceLeDiff, q2, qH1]); rfl) ?_ | refine retQ_K' (by (simp (disch := omega) only [go_sem]); rfl) ?_) | (refine hK _ ?_; clear hK K) | (refine stepG_split (fun hb => ?_) (fun hb => ?_) <;> (have hb2 := hb; try simp only [decide_eq_true_eq, decide_eq_false_iff_not, Classical.not_not, beq_iff_eq, beq_eq_false_iff_ne, bne_iff_ne, ne_eq, Bool.not_eq_true', Bool.not_eq_false', Bool.and_eq_true, Bool.or_eq_true, Bool.and_eq_false_imp, Bool.or_eq_false_iff, Bool.not_eq_true, Bool.not_eq_false] at hb2) <;> ((first | have hb3 : (_ : Bool) = _ := hb2 | have hb3 := eq_false hb2 | have hb3 := eq_true hb2); (simp (disch := omega) only [go_sem, Nat.reduceBEq, Nat.reduceBeqDiff, Nat.reduceEqDiff, reduceIte, reduceCtorEq, Nat.reduceAdd, Nat.reduceMul, Nat.reduceLeDiff, Nat.reduceLT, Int.reduceLT, Int.reduceLE, Int.reduceEq, hb, hb3, q1, q2, q3, q4, qH0, qH1, qH2, qH3, encUs]); clear hb hb3; (try (exfalso; omega)))) | (exfalso; omega))
    have hi2 : i = t.kids.length := by omega
    subst hi2
    rw [List.take_length] at qH3
    rw [encU, cellsU_eq]
    have hlen : t.kids.length = (t.kids.map stripT).length := by simp
    refine fin_of (sealD_agg (k := 3) (by simp [pureD.pureL, pureD]) ?_)
    refine optL_cons (sealD_pure 2 rfl) (optL_cons (sealD_pure 2 rfl) (optL_cons (sealD_pure 2 rfl) (optL_cons (sealD_pure 2 rfl) (optL_cons (sealD_pure 2 rfl) (optL_cons (sealD_pure 2 (pure_encWs _)) (optL_cons (sealD_pure 2 (pure_encWs _)) (optL_cons ?_ optL_nil)))))))
    rw [hlen]
    refine sealD_rowAgg (f := cellsU) (l := t.kids.map stripT) 1 ?_ isAggT27 sizeT27 cellsU_length pure_cellsU
    (simp (disch := omega) only [go_sem, Nat.reduceBEq, qH3])
set_option maxRecDepth 100000 in
set_option maxHeartbeats 8000000 in
theorem pc_Bare (t : T) (hs : szB t = true) (hc : cntT t ≤ 1000000000) (hd : depT t ≤ 1000000000) : PC Tryd.prog 16 [encU t] (.bool (validT t && decide (t = stripT t))) := by
  have h1 := pc_May t hs hc hd
  have h2 := pc_StripR t hs
  have h3 := pc_Same t hs (stripT t) (sz_strip t hs)
  refine PC_intro 1 (by simp only [pureD.pureL, pure_encU, Bool.and_self]) rfl (AC_intro [] Tryd.func16 rfl (by decide +kernel) mixed (by decide +kernel) (by simp [Tryd.ntmps16]) ?_)
  show awp _ _ (Code.seq _ _) _ _
  skip
  repeat' (first | refine awp_assoc ?_ | ((first | refine awp_seq_reg fun K hK => ?_ | refine awp_seq_draw (by decide +kernel) fun K hK => ?_ | refine awp_reg' fun K hK => ?_ | refine awp_draw' (by decide +kernel) fun K hK => ?_); (simp (disch := omega) only [go_sem, Nat.reduceBEq, Nat.reduceAdd, Nat.reduceLeDiff, Nat.reduceLT])) | ((first | refine awp_seq_cond _ rfl (fun hc => ?_) (fun hc => ?_) | refine awp_cond _ rfl (fun hc => ?_) (fun hc => ?_)) <;> (first | (cases hc; done) | ((try simp only [decide_eq_true_eq, decide_eq_false_iff_not, Classical.not_not, beq_iff_eq, beq_eq_false_iff_ne, bne_iff_ne, ne_eq, Bool.not_eq_true', Bool.not_eq_false', Bool.and_eq_true, Bool.or_eq_true, Bool.and_eq_false_imp, Bool.or_eq_false_iff, Bool.not_eq_true, Bool.not_eq_false] at hc); (try (exfalso; omega))))) | refine awp_seq_block ?_ | refine awp_block ?_ | refine awp_seq_skip ?_ | refine awp_seq_ret ?_ | refine awp_seq_exit ?_ | refine awp_skip ?_ | refine awp_exit ?_ | refine awp_ret ?_ | refine seqK_n ?_ | refine seqK_e ?_ | refine seqK_r ?_ | refine blkK_n ?_ | refine blkK_e ?_ | refine blkK_o rfl ?_ | refine blkK_r ?_ | refine loopK_e ?_ | refine loopK_r ?_ | (first | refine retQ_K (by (simp (disch := omega) only [go_sem]); rfl) ?_ | refine retQ_K' (by (simp (disch := omega) only [go_sem]); rfl) ?_) | (refine hK _ ?_; clear hK K) | ((first | refine callW_pc (h1) ?_ | refine callD_pc (h1) ?_); (simp (disch := omega) only [go_sem, Nat.reduceBEq])) | ((first | refine callW_pc (h2) ?_ | refine callD_pc (h2) ?_); (simp (disch := omega) only [go_sem, Nat.reduceBEq])) | ((first | refine callW_pc (h3) ?_ | refine callD_pc (h3) ?_); (simp (disch := omega) only [go_sem, Nat.reduceBEq])) | (refine stepG_split (fun hb => ?_) (fun hb => ?_) <;> (have hb2 := hb; try simp only [decide_eq_true_eq, decide_eq_false_iff_not, Classical.not_not, beq_iff_eq, beq_eq_false_iff_ne, bne_iff_ne, ne_eq, Bool.not_eq_true', Bool.not_eq_false', Bool.and_eq_true, Bool.or_eq_true, Bool.and_eq_false_imp, Bool.or_eq_false_iff, Bool.not_eq_true, Bool.not_eq_false] at hb2) <;> ((first | have hb3 : (_ : Bool) = _ := hb2 | have hb3 := eq_false hb2 | have hb3 := eq_true hb2); (simp (disch := omega) only [go_sem, Nat.reduceBEq, Nat.reduceAdd, Nat.reduceLeDiff, Nat.reduceLT, hb]); clear hb hb3; (try (exfalso; omega)))) | (exfalso; omega))
  all_goals refine fin_bool ?_
  all_goals (simp (disch := omega) only [Bool.true_and, Bool.false_and, *])
namespace Tr
theorem nameK_ne (k : Int) : (nameK k ≠ emptyB) ↔ (0 ≤ k ∧ k ≤ 7) := by
  by_cases h : 0 ≤ k ∧ k < 8
  · have : nameK k ≠ emptyB := by
      rcases kind8 h with rfl | rfl | rfl | rfl | rfl | rfl | rfl | rfl <;> decide
    exact ⟨fun _ => by omega, fun _ => this⟩
  · have : nameK k = emptyB := if_neg h
    exact ⟨fun h2 => absurd this h2, fun h2 => by omega⟩
theorem own_alone (t : T) : (ownB t && decide (t.kids.length ≤ 64)) = aloneR t := by
  unfold ownB aloneR
  by_cases h0 : t.kind = 0
  · rw [if_pos h0, if_pos h0, decide_eq_true (show 0 ≤ t.kind ∧ t.kind ≤ 7 by omega)]
    by_cases h1 : t.head.length = 0
    · by_cases h2 : t.words.length = 0
      · have e1 : rowB t.head = true := by unfold rowB; rw [List.eq_nil_of_length_eq_zero h1]; rfl
        have e2 : rowB t.words = true := by unfold rowB; rw [List.eq_nil_of_length_eq_zero h2]; rfl
        rw [e1, e2, decide_eq_true h1, decide_eq_true h2, decide_eq_true (show t.head.length + t.words.length = 0 by omega)]
        simp [Bool.and_comm]
      · rw [decide_eq_false h2, decide_eq_false (show ¬ t.head.length + t.words.length = 0 by omega)]; simp
    · rw [decide_eq_false h1, decide_eq_false (show ¬ t.head.length + t.words.length = 0 by omega)]; simp
  · rw [if_neg h0, if_neg h0]
    have : decide (nameK t.kind ≠ emptyB) = decide (0 ≤ t.kind ∧ t.kind ≤ 7) := decide_eq_decide.2 (nameK_ne t.kind)
    rw [this]
    cases decide (0 ≤ t.kind ∧ t.kind ≤ 7) <;> cases labelB t.label <;> cases rowB t.head <;> cases rowB t.words <;> cases decide (t.kids.length ≤ 64) <;> rfl
theorem all_nodes (f : T → Bool) (t : T) : (nodesT t).all f = (f t && t.kids.all fun k => (nodesT k).all f) := by
  rw [nodesT_eq, List.all_cons, List.all_flatMap]
theorem all_congr' {α : Type} {f g : α → Bool} : ∀ {l : List α}, (∀ x ∈ l, f x = g x) → l.all f = l.all g
  | [], _ => rfl
  | x :: l, h => by rw [List.all_cons, List.all_cons, h x (by simp), all_congr' fun y hy => h y (List.mem_cons_of_mem _ hy)]
theorem right_nodes : ∀ t : T, (nodesT t).all aloneP = rightT t := by
  refine ind1 fun t ih => ?_
  rw [all_nodes, all_congr' ih, rightT_eq, ← own_alone]
  unfold aloneP
  cases ownB t <;> cases (t.kids.all fun k => nestsB t.kind k.kind) <;> cases decide ((t.kids.map keyK).Nodup) <;> cases decide (t.kids.length ≤ 64) <;> cases t.kids.all rightT <;> rfl
/-- Neither identifiers nor marks. -/
def plainB (t : T) : Bool := decide (t.id = Idv.zero) && ((t.head.all fun w => decide (w.by_ = Idv.zero)) && t.words.all fun w => decide (w.by_ = Idv.zero))
theorem map_fix {α : Type} {f : α → α} : ∀ {l : List α}, l = l.map f ↔ ∀ x ∈ l, x = f x
  | [] => by simp
  | x :: l => by
    rw [List.map_cons, List.cons.injEq, map_fix]
    simp
theorem bareW_fix (w : Wd) : w = bareW w ↔ w.by_ = Idv.zero := by
  obtain ⟨a, b⟩ := w
  unfold bareW
  simp [Wd.mk.injEq]
theorem plain_nodes : ∀ t : T, (nodesT t).all plainB = decide (t = stripT t) := by
  refine ind1 fun t ih => ?_
  rw [all_nodes, all_congr' ih, Bool.eq_iff_iff]
  simp only [plainB, Bool.and_eq_true, decide_eq_true_eq, List.all_eq_true]
  have e : t = stripT t ↔ t.id = Idv.zero ∧ t.head = t.head.map bareW ∧ t.words = t.words.map bareW ∧ t.kids = t.kids.map stripT := by
    constructor
    · intro h
      rw [stripT_eq] at h
      exact ⟨congrArg T.id h, congrArg T.head h, congrArg T.words h, congrArg T.kids h⟩
    · rintro ⟨h1, h2, h3, h4⟩
      rw [stripT_eq, ← h1, ← h2, ← h3, ← h4, T.eta]
  rw [e, map_fix, map_fix, map_fix]
  simp only [bareW_fix, and_assoc]
end Tr
theorem pc_Valid (t : T) (hs : szB t = true) (hc : cntT t ≤ 1000000000) (hd : depT t ≤ 1000000000) : PC Tryd.prog 13 [encU t] (.bool (validT t)) := by
  have h := pc_Valid0 t hs hc hd
  rw [right_nodes] at h
  exact h
set_option maxRecDepth 100000 in
theorem pc_IsBare (t : T) (hs : szB t = true) (hc : cntT t ≤ 1000000000) (hd : depT t ≤ 1000000000) : PC Tryd.prog 15 [encU t] (.bool (validT t && decide (t = stripT t))) := by
  have h1 := pc_Valid t hs hc hd
  have h2 := pc_every (g := 50) (cap := []) plainB rfl t (sz_fit t hs) (fun x hx => by
    obtain ⟨_, b1, _, b2, _⟩ := (sz_iff x).1 (sz_nodes t hs x hx)
    exact pc_IsBare1 x (by unfold maxLen; omega) (by unfold maxLen; omega))
  rw [plain_nodes] at h2
  refine PC_intro 1 (by simp only [pureD.pureL, pure_encU, Bool.and_self]) rfl (AC_intro [] Tryd.func15 rfl (by decide +kernel) mixed (by decide +kernel) (by simp [Tryd.ntmps15]) ?_)
  show awp _ _ (Code.seq _ _) _ _
  skip
  repeat' (first | refine awp_assoc ?_ | ((first | refine awp_seq_reg fun K hK => ?_ | refine awp_seq_draw (by decide +kernel) fun K hK => ?_ | refine awp_reg' fun K hK => ?_ | refine awp_draw' (by decide +kernel) fun K hK => ?_); (simp (disch := omega) only [go_sem, Nat.reduceBEq, Nat.reduceAdd, Nat.reduceLeDiff, Nat.reduceLT])) | ((first | refine awp_seq_cond _ rfl (fun hc => ?_) (fun hc => ?_) | refine awp_cond _ rfl (fun hc => ?_) (fun hc => ?_)) <;> (first | (cases hc; done) | ((try simp only [decide_eq_true_eq, decide_eq_false_iff_not, Classical.not_not, beq_iff_eq, beq_eq_false_iff_ne, bne_iff_ne, ne_eq, Bool.not_eq_true', Bool.not_eq_false', Bool.and_eq_true, Bool.or_eq_true, Bool.and_eq_false_imp, Bool.or_eq_false_iff, Bool.not_eq_true, Bool.not_eq_false] at hc); (try (exfalso; omega))))) | refine awp_seq_block ?_ | refine awp_block ?_ | refine awp_seq_skip ?_ | refine awp_seq_ret ?_ | refine awp_seq_exit ?_ | refine awp_skip ?_ | refine awp_exit ?_ | refine awp_ret ?_ | refine seqK_n ?_ | refine seqK_e ?_ | refine seqK_r ?_ | refine blkK_n ?_ | refine blkK_e ?_ | refine blkK_o rfl ?_ | refine blkK_r ?_ | refine loopK_e ?_ | refine loopK_r ?_ | (first | refine retQ_K (by (simp (disch := omega) only [go_sem]); rfl) ?_ | refine retQ_K' (by (simp (disch := omega) only [go_sem]); rfl) ?_) | (refine hK _ ?_; clear hK K) | ((first | refine callW_pc (h1) ?_ | refine callD_pc (h1) ?_); (simp (disch := omega) only [go_sem, Nat.reduceBEq])) | ((first | refine callW_pc (h2) ?_ | refine callD_pc (h2) ?_); (simp (disch := omega) only [go_sem, Nat.reduceBEq])) | (refine stepG_split (fun hb => ?_) (fun hb => ?_) <;> (have hb2 := hb; try simp only [decide_eq_true_eq, decide_eq_false_iff_not, Classical.not_not, beq_iff_eq, beq_eq_false_iff_ne, bne_iff_ne, ne_eq, Bool.not_eq_true', Bool.not_eq_false', Bool.and_eq_true, Bool.or_eq_true, Bool.and_eq_false_imp, Bool.or_eq_false_iff, Bool.not_eq_true, Bool.not_eq_false] at hb2) <;> ((first | have hb3 : (_ : Bool) = _ := hb2 | have hb3 := eq_false hb2 | have hb3 := eq_true hb2); (simp (disch := omega) only [go_sem, Nat.reduceBEq, Nat.reduceAdd, Nat.reduceLeDiff, Nat.reduceLT, hb]); clear hb hb3; (try (exfalso; omega)))) | (exfalso; omega))
  all_goals refine fin_bool ?_
  all_goals (simp (disch := omega) only [Bool.true_and, Bool.false_and, *])
end Go.Proofs.YtkhjpcmpljpmjaaDoor
