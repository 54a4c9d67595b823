/-
  The walks of UnitValidity, UnitLookup, UnitEquality. No condition but lengths.
-/
import Derived.Test.YtkhjpcmpljpmjaaDoorAwake6
namespace Go.Proofs.YtkhjpcmpljpmjaaDoor
open Abs Facts Tr
attribute [local irreducible] awp
namespace Tr
theorem sz_zero : szB T.zero = true := by decide +kernel
theorem sz_find (id : Idv) (t : T) (hs : szB t = true) : szB (findR id t).1 = true := by
  by_cases h : wayT id t = []
  · rw [findR_no h]; exact sz_zero
  · unfold findR
    rw [last_get _ h]
    exact sz_nodes t hs _ (way_mem id t _ (List.getElem_mem _))
theorem ancR_len (id : Idv) (t : T) : (ancR id t).length ≤ depT t := by
  have h1 := wayT_len id t
  have h3 : (ancR id t).length = (wayT id t).length - 1 := by unfold ancR; simp
  omega
theorem strip_strip : ∀ t : T, stripT (stripT t) = stripT t := by
  refine ind1 fun t ih => ?_
  have e : ∀ l : List Wd, (l.map bareW).map bareW = l.map bareW := fun l => by rw [List.map_map]; rfl
  have e2 : (t.kids.map stripT).map stripT = t.kids.map stripT := by
    rw [List.map_map]
    exact List.map_congr_left fun k hk => ih k hk
  rw [stripT_eq t, stripT_eq]
  show T.mk _ _ _ ((t.head.map bareW).map bareW) ((t.words.map bareW).map bareW) ((t.kids.map stripT).map stripT) = _
  rw [e, e, e2]
  rfl
end Tr
set_option maxRecDepth 100000 in
set_option maxHeartbeats 8000000 in
theorem pc_LawValidity (u : T) (hfit : fitB u = true) (p k : Int) : PC Tryd.prog 3 [encU u, .int .i64 p, .int .i64 k] (.bool true) := by
  have ha := pc_awake6
  have hf := pc_Few u hfit 60 (by omega) (by omega)
  refine PC_intro 1 (by simp only [pureD.pureL, pure_encU, pureD, Bool.and_self]) rfl (AC_intro [] Tryd.func3 rfl (by decide +kernel) mixed (by decide +kernel) (by simp [Tryd.ntmps3]) ?_)
  show awp _ _ (Code.seq _ _) _ _
  skip
  by_cases hb : fewB u 60 = true
  · obtain ⟨hs, hc, hd⟩ := few_sz (by omega) (by omega) hb
    rw [hb] at hf
    have c1 := pc_Valid u hs (by omega) (by omega)
    have c2 := pc_May u hs (by omega) (by omega)
    have c3 := pc_IsBare u hs (by omega) (by omega)
    have c4 := pc_Bare u hs (by omega) (by omega)
    have c5 := pc_CanContain p k
    have c6 := pc_Nests p k
    have c7 := pc_KindName k
    have c8 := pc_Name k
    repeat' (first | refine awp_assoc ?_ | ((first | refine awp_seq_reg fun K hK => ?_ | refine awp_seq_draw (by decide +kernel) fun K hK => ?_ | refine awp_reg' fun K hK => ?_ | refine awp_draw' (by decide +kernel) fun K hK => ?_); (simp (disch := omega) only [go_sem, Nat.reduceBEq, Nat.reduceAdd, Nat.reduceLeDiff, Nat.reduceLT])) | ((first | refine awp_seq_cond _ rfl (fun hc => ?_) (fun hc => ?_) | refine awp_cond _ rfl (fun hc => ?_) (fun hc => ?_)) <;> (first | (cases hc; done) | ((try simp only [] at hc); (try (exfalso; omega))))) | refine awp_seq_block ?_ | refine awp_block ?_ | refine awp_seq_skip ?_ | refine awp_seq_ret ?_ | refine awp_seq_exit ?_ | refine awp_skip ?_ | refine awp_exit ?_ | refine awp_ret ?_ | refine seqK_n ?_ | refine seqK_e ?_ | refine seqK_r ?_ | refine blkK_n ?_ | refine blkK_e ?_ | refine blkK_o rfl ?_ | refine blkK_r ?_ | refine loopK_e ?_ | refine loopK_r ?_ | (first | refine retQ_K (by (simp (disch := omega) only [go_sem]); rfl) ?_ | refine retQ_K' (by (simp (disch := omega) only [go_sem]); rfl) ?_) | (refine hK _ ?_; clear hK K) | ((first | refine callW_pc (ha) ?_ | refine callD_pc (ha) ?_); (simp (disch := omega) only [go_sem, Nat.reduceBEq])) | ((first | refine callW_pc (hf) ?_ | refine callD_pc (hf) ?_); (simp (disch := omega) only [go_sem, Nat.reduceBEq])) | ((first | refine callW_pc (c1) ?_ | refine callD_pc (c1) ?_); (simp (disch := omega) only [go_sem, Nat.reduceBEq, Nat.reduceAdd, Nat.reduceLeDiff, Nat.reduceLT])) | ((first | refine callW_pc (c2) ?_ | refine callD_pc (c2) ?_); (simp (disch := omega) only [go_sem, Nat.reduceBEq, Nat.reduceAdd, Nat.reduceLeDiff, Nat.reduceLT])) | ((first | refine callW_pc (c3) ?_ | refine callD_pc (c3) ?_); (simp (disch := omega) only [go_sem, Nat.reduceBEq, Nat.reduceAdd, Nat.reduceLeDiff, Nat.reduceLT])) | ((first | refine callW_pc (c4) ?_ | refine callD_pc (c4) ?_); (simp (disch := omega) only [go_sem, Nat.reduceBEq])) | ((first | refine callW_pc (c5) ?_ | refine callD_pc (c5) ?_); (simp (disch := omega) only [go_sem, Nat.reduceBEq])) | ((first | refine callW_pc (c6) ?_ | refine callD_pc (c6) ?_); (simp (disch := omega) only [go_sem, Nat.reduceBEq])) | ((first | refine callW_pc (c7) ?_ | refine callD_pc (c7) ?_); (simp (disch := omega) only [go_sem, Nat.reduceBEq])) | ((first | refine callW_pc (c8) ?_ | refine callD_pc (c8) ?_); (simp (disch := omega) only [go_sem, Nat.reduceBEq])) | (refine stepG_split (fun hb => ?_) (fun hb => ?_) <;> (have hb2 := hb; try simp only [decide_eq_true_eq, decide_eq_false_iff_not, Classical.not_not, beq_iff_eq, beq_eq_false_iff_ne, bne_iff_ne, ne_eq, Bool.not_eq_true', Bool.not_eq_false', Bool.and_eq_true, Bool.or_eq_true, Bool.and_eq_false_imp, Bool.or_eq_false_iff, Bool.not_eq_true, Bool.not_eq_false] at hb2) <;> ((first | have hb3 : (_ : Bool) = _ := hb2 | have hb3 := eq_false hb2 | have hb3 := eq_true hb2); (simp (disch := omega) only [go_sem, Nat.reduceBEq, Nat.reduceBeqDiff, Nat.reduceEqDiff, reduceIte, reduceCtorEq, Nat.reduceAdd, Nat.reduceMul, Nat.reduceLeDiff, Nat.reduceLT, Int.reduceLT, Int.reduceLE, Int.reduceEq, hb, hb3]); clear hb hb3; (try (exfalso; omega)))) | (exfalso; omega))
    exact fin_bool rfl
  · rw [Bool.not_eq_true] at hb
    rw [hb] at hf
    repeat' (first | refine awp_assoc ?_ | ((first | refine awp_seq_reg fun K hK => ?_ | refine awp_seq_draw (by decide +kernel) fun K hK => ?_ | refine awp_reg' fun K hK => ?_ | refine awp_draw' (by decide +kernel) fun K hK => ?_); (simp (disch := omega) only [go_sem, Nat.reduceBEq, Nat.reduceAdd, Nat.reduceLeDiff, Nat.reduceLT])) | ((first | refine awp_seq_cond _ rfl (fun hc => ?_) (fun hc => ?_) | refine awp_cond _ rfl (fun hc => ?_) (fun hc => ?_)) <;> (first | (cases hc; done) | ((try simp only [] at hc); (try (exfalso; omega))))) | refine awp_seq_block ?_ | refine awp_block ?_ | refine awp_seq_skip ?_ | refine awp_seq_ret ?_ | refine awp_seq_exit ?_ | refine awp_skip ?_ | refine awp_exit ?_ | refine awp_ret ?_ | refine seqK_n ?_ | refine seqK_e ?_ | refine seqK_r ?_ | refine blkK_n ?_ | refine blkK_e ?_ | refine blkK_o rfl ?_ | refine blkK_r ?_ | refine loopK_e ?_ | refine loopK_r ?_ | (first | refine retQ_K (by (simp (disch := omega) only [go_sem]); rfl) ?_ | refine retQ_K' (by (simp (disch := omega) only [go_sem]); rfl) ?_) | (refine hK _ ?_; clear hK K) | ((first | refine callW_pc (ha) ?_ | refine callD_pc (ha) ?_); (simp (disch := omega) only [go_sem, Nat.reduceBEq])) | ((first | refine callW_pc (hf) ?_ | refine callD_pc (hf) ?_); (simp (disch := omega) only [go_sem, Nat.reduceBEq])) | (refine stepG_split (fun hb => ?_) (fun hb => ?_) <;> (have hb2 := hb; try simp only [decide_eq_true_eq, decide_eq_false_iff_not, Classical.not_not, beq_iff_eq, beq_eq_false_iff_ne, bne_iff_ne, ne_eq, Bool.not_eq_true', Bool.not_eq_false', Bool.and_eq_true, Bool.or_eq_true, Bool.and_eq_false_imp, Bool.or_eq_false_iff, Bool.not_eq_true, Bool.not_eq_false] at hb2) <;> ((first | have hb3 : (_ : Bool) = _ := hb2 | have hb3 := eq_false hb2 | have hb3 := eq_true hb2); (simp (disch := omega) only [go_sem, Nat.reduceBEq, Nat.reduceBeqDiff, Nat.reduceEqDiff, reduceIte, reduceCtorEq, Nat.reduceAdd, Nat.reduceMul, Nat.reduceLeDiff, Nat.reduceLT, Int.reduceLT, Int.reduceLE, Int.reduceEq, hb, hb3]); clear hb hb3; (try (exfalso; omega)))) | (exfalso; omega))
    exact fin_bool rfl
set_option maxRecDepth 100000 in
set_option maxHeartbeats 8000000 in
theorem pc_LawLookup (u : T) (hfit : fitB u = true) (id : Idv) : PC Tryd.prog 6 [encU u, encId id] (.bool true) := by
  have ha := pc_awake6
  have hf := pc_Few u hfit 60 (by omega) (by omega)
  refine PC_intro 1 (by simp only [pureD.pureL, pure_encU]; rfl) rfl (AC_intro [] Tryd.func6 rfl (by decide +kernel) mixed (by decide +kernel) (by simp [Tryd.ntmps6]) ?_)
  show awp _ _ (Code.seq _ _) _ _
  skip
  by_cases hb : fewB u 60 = true
  · obtain ⟨hs, hc, hd⟩ := few_sz (by omega) (by omega) hb
    rw [hb] at hf
    have c1 := pc_Find u (sz_sm u hs) (by omega) id
    have c2 := pc_FindR id u hs
    have c3 := pc_Parent u (sz_sm u hs) (by omega) id
    have c4 := pc_ParentR id u hs
    have c5 := pc_Count u (sz_fit u hs) (by omega)
    have c6 := pc_CountR u hs (by omega)
    have c7 := pc_Depth u (sz_fit u hs) (by omega)
    have c8 := pc_DepthR u hs (by omega)
    have c9 := pc_IDs u (sz_fit u hs) (by omega)
    have c10 := pc_All u hs (by omega)
    have hil := idsT_len u
    have c11 := pc_RowsI (idsT u) (idsT u) (by unfold maxLen; omega) (by unfold maxLen; omega)
    have hfs := sz_find id u hs
    have c12 := pc_Same (findR id u).1 hfs (findR id u).1 hfs
    have c13 := pc_Ancestors u (sz_sm u hs) (by omega) id
    have c14 := pc_Above id u hs (by omega)
    have hal := ancR_len id u
    have c15 := pc_RowsI (ancR id u) (ancR id u) (by unfold maxLen; omega) (by unfold maxLen; omega)
    rw [decide_eq_true rfl] at c11 c12 c15
    repeat' (first | refine awp_assoc ?_ | ((first | refine awp_seq_reg fun K hK => ?_ | refine awp_seq_draw (by decide +kernel) fun K hK => ?_ | refine awp_reg' fun K hK => ?_ | refine awp_draw' (by decide +kernel) fun K hK => ?_); (simp (disch := omega) only [go_sem, Nat.reduceBEq, Nat.reduceAdd, Nat.reduceLeDiff, Nat.reduceLT])) | ((first | refine awp_seq_cond _ rfl (fun hc => ?_) (fun hc => ?_) | refine awp_cond _ rfl (fun hc => ?_) (fun hc => ?_)) <;> (first | (cases hc; done) | ((try simp only [] at hc); (try (exfalso; omega))))) | refine awp_seq_block ?_ | refine awp_block ?_ | refine awp_seq_skip ?_ | refine awp_seq_ret ?_ | refine awp_seq_exit ?_ | refine awp_skip ?_ | refine awp_exit ?_ | refine awp_ret ?_ | refine seqK_n ?_ | refine seqK_e ?_ | refine seqK_r ?_ | refine blkK_n ?_ | refine blkK_e ?_ | refine blkK_o rfl ?_ | refine blkK_r ?_ | refine loopK_e ?_ | refine loopK_r ?_ | (first | refine retQ_K (by (simp (disch := omega) only [go_sem]); rfl) ?_ | refine retQ_K' (by (simp (disch := omega) only [go_sem]); rfl) ?_) | (refine hK _ ?_; clear hK K) | ((first | refine callW_pc (ha) ?_ | refine callD_pc (ha) ?_); (simp (disch := omega) only [go_sem, Nat.reduceBEq])) | ((first | refine callW_pc (hf) ?_ | refine callD_pc (hf) ?_); (simp (disch := omega) only [go_sem, Nat.reduceBEq])) | ((first | refine callW_pc (c1) ?_ | refine callD_pc (c1) ?_); (simp (disch := omega) only [go_sem, Nat.reduceBEq, Nat.reduceAdd, Nat.reduceLeDiff])) | ((first | refine callW_pc (c2) ?_ | refine callD_pc (c2) ?_); (simp (disch := omega) only [go_sem, Nat.reduceBEq, Nat.reduceAdd, Nat.reduceLeDiff])) | ((first | refine callW_pc (c3) ?_ | refine callD_pc (c3) ?_); (simp (disch := omega) only [go_sem, Nat.reduceBEq, Nat.reduceAdd, Nat.reduceLeDiff])) | ((first | refine callW_pc (c4) ?_ | refine callD_pc (c4) ?_); (simp (disch := omega) only [go_sem, Nat.reduceBEq, Nat.reduceAdd, Nat.reduceLeDiff])) | ((first | refine callW_pc (c5) ?_ | refine callD_pc (c5) ?_); (simp (disch := omega) only [go_sem, Nat.reduceBEq, Nat.reduceAdd, Nat.reduceLeDiff])) | ((first | refine callW_pc (c6) ?_ | refine callD_pc (c6) ?_); (simp (disch := omega) only [go_sem, Nat.reduceBEq, Nat.reduceAdd, Nat.reduceLeDiff])) | ((first | refine callW_pc (c7) ?_ | refine callD_pc (c7) ?_); (simp (disch := omega) only [go_sem, Nat.reduceBEq, Nat.reduceAdd, Nat.reduceLeDiff])) | ((first | refine callW_pc (c8) ?_ | refine callD_pc (c8) ?_); (simp (disch := omega) only [go_sem, Nat.reduceBEq, Nat.reduceAdd, Nat.reduceLeDiff])) | ((first | refine callW_pc (c9) ?_ | refine callD_pc (c9) ?_); (simp (disch := omega) only [go_sem, Nat.reduceBEq, Nat.reduceAdd, Nat.reduceLeDiff])) | ((first | refine callW_pc (c10) ?_ | refine callD_pc (c10) ?_); (simp (disch := omega) only [go_sem, Nat.reduceBEq])) | ((first | refine callW_pc (c11) ?_ | refine callD_pc (c11) ?_); (simp (disch := omega) only [go_sem, Nat.reduceBEq, Nat.reduceAdd, Nat.reduceLeDiff])) | ((first | refine callW_pc (c12) ?_ | refine callD_pc (c12) ?_); (simp (disch := omega) only [go_sem, Nat.reduceBEq, Nat.reduceAdd, Nat.reduceLeDiff, Nat.reduceLT])) | ((first | refine callW_pc (c13) ?_ | refine callD_pc (c13) ?_); (simp (disch := omega) only [go_sem, Nat.reduceBEq, Nat.reduceAdd, Nat.reduceLeDiff])) | ((first | refine callW_pc (c14) ?_ | refine callD_pc (c14) ?_); (simp (disch := omega) only [go_sem, Nat.reduceBEq])) | ((first | refine callW_pc (c15) ?_ | refine callD_pc (c15) ?_); (simp (disch := omega) only [go_sem, Nat.reduceBEq])) | (refine stepG_split (fun hb => ?_) (fun hb => ?_) <;> (have hb2 := hb; try simp only [decide_eq_true_eq, decide_eq_false_iff_not, Classical.not_not, beq_iff_eq, beq_eq_false_iff_ne, bne_iff_ne, ne_eq, Bool.not_eq_true', Bool.not_eq_false', Bool.and_eq_true, Bool.or_eq_true, Bool.and_eq_false_imp, Bool.or_eq_false_iff, Bool.not_eq_true, Bool.not_eq_false] at hb2) <;> ((first | have hb3 : (_ : Bool) = _ := hb2 | have hb3 := eq_false hb2 | have hb3 := eq_true hb2); (simp (disch := omega) only [go_sem, Nat.reduceBEq, Nat.reduceBeqDiff, Nat.reduceEqDiff, reduceIte, reduceCtorEq, Nat.reduceAdd, Nat.reduceMul, Nat.reduceLeDiff, Nat.reduceLT, Int.reduceLT, Int.reduceLE, Int.reduceEq, hb, hb3, cellsId]); clear hb hb3; (try (exfalso; omega)))) | (exfalso; omega))
    exact fin_bool rfl
  · rw [Bool.not_eq_true] at hb
    rw [hb] at hf
    repeat' (first | refine awp_assoc ?_ | ((first | refine awp_seq_reg fun K hK => ?_ | refine awp_seq_draw (by decide +kernel) fun K hK => ?_ | refine awp_reg' fun K hK => ?_ | refine awp_draw' (by decide +kernel) fun K hK => ?_); (simp (disch := omega) only [go_sem, Nat.reduceBEq, Nat.reduceAdd, Nat.reduceLeDiff])) | ((first | refine awp_seq_cond _ rfl (fun hc => ?_) (fun hc => ?_) | refine awp_cond _ rfl (fun hc => ?_) (fun hc => ?_)) <;> (first | (cases hc; done) | ((try simp only [] at hc); (try (exfalso; omega))))) | refine awp_seq_block ?_ | refine awp_block ?_ | refine awp_seq_skip ?_ | refine awp_seq_ret ?_ | refine awp_seq_exit ?_ | refine awp_skip ?_ | refine awp_exit ?_ | refine awp_ret ?_ | refine seqK_n ?_ | refine seqK_e ?_ | refine seqK_r ?_ | refine blkK_n ?_ | refine blkK_e ?_ | refine blkK_o rfl ?_ | refine blkK_r ?_ | refine loopK_e ?_ | refine loopK_r ?_ | (first | refine retQ_K (by (simp (disch := omega) only [go_sem]); rfl) ?_ | refine retQ_K' (by (simp (disch := omega) only [go_sem]); rfl) ?_) | (refine hK _ ?_; clear hK K) | ((first | refine callW_pc (ha) ?_ | refine callD_pc (ha) ?_); (simp (disch := omega) only [go_sem, Nat.reduceBEq])) | ((first | refine callW_pc (hf) ?_ | refine callD_pc (hf) ?_); (simp (disch := omega) only [go_sem, Nat.reduceBEq])) | (refine stepG_split (fun hb => ?_) (fun hb => ?_) <;> (have hb2 := hb; try simp only [decide_eq_true_eq, decide_eq_false_iff_not, Classical.not_not, beq_iff_eq, beq_eq_false_iff_ne, bne_iff_ne, ne_eq, Bool.not_eq_true', Bool.not_eq_false', Bool.and_eq_true, Bool.or_eq_true, Bool.and_eq_false_imp, Bool.or_eq_false_iff, Bool.not_eq_true, Bool.not_eq_false] at hb2) <;> ((first | have hb3 : (_ : Bool) = _ := hb2 | have hb3 := eq_false hb2 | have hb3 := eq_true hb2); (simp (disch := omega) only [go_sem, Nat.reduceBEq, Nat.reduceBeqDiff, Nat.reduceEqDiff, reduceIte, reduceCtorEq, Nat.reduceAdd, Nat.reduceMul, Nat.reduceLeDiff, Nat.reduceLT, Int.reduceLT, Int.reduceLE, Int.reduceEq, hb, hb3, cellsId]); clear hb hb3; (try (exfalso; omega)))) | (exfalso; omega))
    exact fin_bool rfl
set_option maxRecDepth 100000 in
set_option maxHeartbeats 8000000 in
theorem pc_LawEquality (a b : T) (hfa : fitB a = true) (hfb : fitB b = true) : PC Tryd.prog 7 [encU a, encU b] (.bool true) := by
  have ha := pc_awake6
  have hf1 := pc_Few a hfa 60 (by omega) (by omega)
  have hf2 := pc_Few b hfb 60 (by omega) (by omega)
  refine PC_intro 1 (by simp only [pureD.pureL, pure_encU, Bool.and_self]) rfl (AC_intro [] Tryd.func7 rfl (by decide +kernel) mixed (by decide +kernel) (by simp [Tryd.ntmps7]) ?_)
  show awp _ _ (Code.seq _ _) _ _
  skip
  by_cases h1 : fewB a 60 = true
  · by_cases h2 : fewB b 60 = true
    · obtain ⟨hsa, _, _⟩ := few_sz (by omega) (by omega) h1
      obtain ⟨hsb, _, _⟩ := few_sz (by omega) (by omega) h2
      rw [h1] at hf1
      rw [h2] at hf2
      have hst := sz_strip a hsa
      have hss := strip_strip a
      have c1 := pc_Strip a hsa
      have c2 := pc_StripR a hsa
      have c3 := pc_Same (stripT a) hst (stripT a) hst
      have c4 := pc_Equal a hsa b hsb
      have c5 := pc_Same a hsa b hsb
      have c6 := pc_Equal b hsb a hsa
      have c7 := pc_Equal a hsa a hsa
      have c8 := pc_Strip (stripT a) hst
      rw [hss] at c8
      have c9 := pc_Equal (stripT a) hst (stripT a) hst
      rw [decide_eq_true rfl] at c3 c7 c9
      repeat' (first | refine awp_assoc ?_ | ((first | refine awp_seq_reg fun K hK => ?_ | refine awp_seq_draw (by decide +kernel) fun K hK => ?_ | refine awp_reg' fun K hK => ?_ | refine awp_draw' (by decide +kernel) fun K hK => ?_); (simp (disch := omega) only [go_sem, Nat.reduceBEq, Nat.reduceAdd, Nat.reduceLeDiff, Nat.reduceLT])) | ((first | refine awp_seq_cond _ rfl (fun hc => ?_) (fun hc => ?_) | refine awp_cond _ rfl (fun hc => ?_) (fun hc => ?_)) <;> (first | (cases hc; done) | ((try simp only [] at hc); (try (exfalso; omega))))) | refine awp_seq_block ?_ | refine awp_block ?_ | refine awp_seq_skip ?_ | refine awp_seq_ret ?_ | refine awp_seq_exit ?_ | refine awp_skip ?_ | refine awp_exit ?_ | refine awp_ret ?_ | refine seqK_n ?_ | refine seqK_e ?_ | refine seqK_r ?_ | refine blkK_n ?_ | refine blkK_e ?_ | refine blkK_o rfl ?_ | refine blkK_r ?_ | refine loopK_e ?_ | refine loopK_r ?_ | (first | refine retQ_K (by (simp (disch := omega) only [go_sem]); rfl) ?_ | refine retQ_K' (by (simp (disch := omega) only [go_sem]); rfl) ?_) | (refine hK _ ?_; clear hK K) | ((first | refine callW_pc (ha) ?_ | refine callD_pc (ha) ?_); (simp (disch := omega) only [go_sem, Nat.reduceBEq])) | ((first | refine callW_pc (hf1) ?_ | refine callD_pc (hf1) ?_); (simp (disch := omega) only [go_sem, Nat.reduceBEq, Nat.reduceAdd, Nat.reduceLeDiff, Nat.reduceLT])) | ((first | refine callW_pc (hf2) ?_ | refine callD_pc (hf2) ?_); (simp (disch := omega) only [go_sem, Nat.reduceBEq])) | ((first | refine callW_pc (c1) ?_ | refine callD_pc (c1) ?_); (simp (disch := omega) only [go_sem, Nat.reduceBEq, Nat.reduceAdd, Nat.reduceLeDiff])) | ((first | refine callW_pc (c2) ?_ | refine callD_pc (c2) ?_); (simp (disch := omega) only [go_sem, Nat.reduceBEq])) | ((first | refine callW_pc (c3) ?_ | refine callD_pc (c3) ?_); (simp (disch := omega) only [go_sem, Nat.reduceBEq, Nat.reduceAdd, Nat.reduceLeDiff])) | ((first | refine callW_pc (c4) ?_ | refine callD_pc (c4) ?_); (simp (disch := omega) only [go_sem, Nat.reduceBEq, Nat.reduceAdd, Nat.reduceLeDiff])) | ((first | refine callW_pc (c5) ?_ | refine callD_pc (c5) ?_); (simp (disch := omega) only [go_sem, Nat.reduceBEq, Nat.reduceAdd, Nat.reduceLeDiff])) | ((first | refine callW_pc (c6) ?_ | refine callD_pc (c6) ?_); (simp (disch := omega) only [go_sem, Nat.reduceBEq, Nat.reduceAdd, Nat.reduceLeDiff])) | ((first | refine callW_pc (c7) ?_ | refine callD_pc (c7) ?_); (simp (disch := omega) only [go_sem, Nat.reduceBEq, Nat.reduceAdd, Nat.reduceLeDiff, Nat.reduceLT])) | ((first | refine callW_pc (c8) ?_ | refine callD_pc (c8) ?_); (simp (disch := omega) only [go_sem, Nat.reduceBEq, Nat.reduceAdd, Nat.reduceLeDiff, Nat.reduceLT])) | ((first | refine callW_pc (c9) ?_ | refine callD_pc (c9) ?_); (simp (disch := omega) only [go_sem, Nat.reduceBEq])) | (refine stepG_split (fun hb => ?_) (fun hb => ?_) <;> (have hb2 := hb; try simp only [beq_iff_eq, beq_eq_false_iff_ne, ne_eq] at hb2) <;> ((first | have hb3 : (_ : Bool) = _ := hb2 | have hb3 := eq_false hb2 | have hb3 := eq_true hb2); (simp (disch := omega) only [go_sem, Nat.reduceBEq, Nat.reduceAdd, Nat.reduceLeDiff, hb, hb3]); clear hb hb3; (try (exfalso; omega)))) | (exfalso; omega))
      · exact fin_bool rfl
      · exact absurd (decide_eq_decide.2 ⟨fun h => h.symm, fun h => h.symm⟩) ‹¬decide (b = a) = decide (a = b)›
    · rw [Bool.not_eq_true] at h2
      rw [h1] at hf1
      rw [h2] at hf2
      repeat' (first | refine awp_assoc ?_ | ((first | refine awp_seq_reg fun K hK => ?_ | refine awp_seq_draw (by decide +kernel) fun K hK => ?_ | refine awp_reg' fun K hK => ?_ | refine awp_draw' (by decide +kernel) fun K hK => ?_); (simp (disch := omega) only [go_sem, Nat.reduceBEq, Nat.reduceAdd, Nat.reduceLeDiff])) | ((first | refine awp_seq_cond _ rfl (fun hc => ?_) (fun hc => ?_) | refine awp_cond _ rfl (fun hc => ?_) (fun hc => ?_)) <;> (first | (cases hc; done) | ((try simp only [] at hc); (try (exfalso; omega))))) | refine awp_seq_block ?_ | refine awp_block ?_ | refine awp_seq_skip ?_ | refine awp_seq_ret ?_ | refine awp_seq_exit ?_ | refine awp_skip ?_ | refine awp_exit ?_ | refine awp_ret ?_ | refine seqK_n ?_ | refine seqK_e ?_ | refine seqK_r ?_ | refine blkK_n ?_ | refine blkK_e ?_ | refine blkK_o rfl ?_ | refine blkK_r ?_ | refine loopK_e ?_ | refine loopK_r ?_ | (first | refine retQ_K (by (simp (disch := omega) only [go_sem]); rfl) ?_ | refine retQ_K' (by (simp (disch := omega) only [go_sem]); rfl) ?_) | (refine hK _ ?_; clear hK K) | ((first | refine callW_pc (ha) ?_ | refine callD_pc (ha) ?_); (simp (disch := omega) only [go_sem, Nat.reduceBEq])) | ((first | refine callW_pc (hf1) ?_ | refine callD_pc (hf1) ?_); (simp (disch := omega) only [go_sem, Nat.reduceBEq, Nat.reduceAdd, Nat.reduceLeDiff, Nat.reduceLT])) | ((first | refine callW_pc (hf2) ?_ | refine callD_pc (hf2) ?_); (simp (disch := omega) only [go_sem, Nat.reduceBEq])) | (refine stepG_split (fun hb => ?_) (fun hb => ?_) <;> (have hb2 := hb; try simp only [decide_eq_true_eq, decide_eq_false_iff_not, Classical.not_not, beq_iff_eq, beq_eq_false_iff_ne, bne_iff_ne, ne_eq, Bool.not_eq_true', Bool.not_eq_false', Bool.and_eq_true, Bool.or_eq_true, Bool.and_eq_false_imp, Bool.or_eq_false_iff, Bool.not_eq_true, Bool.not_eq_false] at hb2) <;> ((first | have hb3 : (_ : Bool) = _ := hb2 | have hb3 := eq_false hb2 | have hb3 := eq_true hb2); (simp (disch := omega) only [go_sem, Nat.reduceBEq, Nat.reduceBeqDiff, Nat.reduceEqDiff, reduceIte, reduceCtorEq, Nat.reduceAdd, Nat.reduceMul, Nat.reduceLeDiff, Nat.reduceLT, Int.reduceLT, Int.reduceLE, Int.reduceEq, hb, hb3]); clear hb hb3; (try (exfalso; omega)))) | (exfalso; omega))
      exact fin_bool rfl
  · rw [Bool.not_eq_true] at h1
    rw [h1] at hf1
    repeat' (first | refine awp_assoc ?_ | ((first | refine awp_seq_reg fun K hK => ?_ | refine awp_seq_draw (by decide +kernel) fun K hK => ?_ | refine awp_reg' fun K hK => ?_ | refine awp_draw' (by decide +kernel) fun K hK => ?_); (simp (disch := omega) only [go_sem, Nat.reduceBEq, Nat.reduceAdd, Nat.reduceLeDiff])) | ((first | refine awp_seq_cond _ rfl (fun hc => ?_) (fun hc => ?_) | refine awp_cond _ rfl (fun hc => ?_) (fun hc => ?_)) <;> (first | (cases hc; done) | ((try simp only [] at hc); (try (exfalso; omega))))) | refine awp_seq_block ?_ | refine awp_block ?_ | refine awp_seq_skip ?_ | refine awp_seq_ret ?_ | refine awp_seq_exit ?_ | refine awp_skip ?_ | refine awp_exit ?_ | refine awp_ret ?_ | refine seqK_n ?_ | refine seqK_e ?_ | refine seqK_r ?_ | refine blkK_n ?_ | refine blkK_e ?_ | refine blkK_o rfl ?_ | refine blkK_r ?_ | refine loopK_e ?_ | refine loopK_r ?_ | (first | refine retQ_K (by (simp (disch := omega) only [go_sem]); rfl) ?_ | refine retQ_K' (by (simp (disch := omega) only [go_sem]); rfl) ?_) | (refine hK _ ?_; clear hK K) | ((first | refine callW_pc (ha) ?_ | refine callD_pc (ha) ?_); (simp (disch := omega) only [go_sem, Nat.reduceBEq])) | ((first | refine callW_pc (hf1) ?_ | refine callD_pc (hf1) ?_); (simp (disch := omega) only [go_sem, Nat.reduceBEq])) | (refine stepG_split (fun hb => ?_) (fun hb => ?_) <;> (have hb2 := hb; try simp only [decide_eq_true_eq, decide_eq_false_iff_not, Classical.not_not, beq_iff_eq, beq_eq_false_iff_ne, bne_iff_ne, ne_eq, Bool.not_eq_true', Bool.not_eq_false', Bool.and_eq_true, Bool.or_eq_true, Bool.and_eq_false_imp, Bool.or_eq_false_iff, Bool.not_eq_true, Bool.not_eq_false] at hb2) <;> ((first | have hb3 : (_ : Bool) = _ := hb2 | have hb3 := eq_false hb2 | have hb3 := eq_true hb2); (simp (disch := omega) only [go_sem, Nat.reduceBEq, Nat.reduceBeqDiff, Nat.reduceEqDiff, reduceIte, reduceCtorEq, Nat.reduceAdd, Nat.reduceMul, Nat.reduceLeDiff, Nat.reduceLT, Int.reduceLT, Int.reduceLE, Int.reduceEq, hb, hb3]); clear hb hb3; (try (exfalso; omega)))) | (exfalso; omega))
    exact fin_bool rfl
end Go.Proofs.YtkhjpcmpljpmjaaDoor
