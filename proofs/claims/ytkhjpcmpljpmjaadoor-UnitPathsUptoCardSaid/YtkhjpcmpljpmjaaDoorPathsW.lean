/-
  The walk of UnitPaths. The only condition: at most 1000000000 units.
-/
import Derived.Test.YtkhjpcmpljpmjaaDoorPathsLaw
set_option maxRecDepth 100000
set_option maxHeartbeats 8000000
set_option linter.unusedSimpArgs false
set_option linter.unusedVariables false
namespace Go.Proofs.YtkhjpcmpljpmjaaDoor
open Abs Facts Tr
attribute [local irreducible] awp
namespace Tr
theorem ids_nodup {t : T} (h : validT t = true) (hz : ¬ ∃ h : 1 < (idsT t).length, (idsT t)[1] = Idv.zero) : (idsT t).Nodup := by
  unfold validT idsB at h
  simp only [Bool.and_eq_true, Bool.or_eq_true, decide_eq_true_eq, List.all_eq_true] at h
  obtain ⟨_, _, _, h | h⟩ := h
  · by_cases h1 : 1 < (idsT t).length
    · exact (hz ⟨h1, h _ (List.getElem_mem h1)⟩).elim
    · match hl : idsT t with
      | [] => exact List.nodup_nil
      | [a] => exact List.nodup_cons.2 ⟨by simp, List.nodup_nil⟩
      | a :: b :: l => rw [hl] at h1; simp at h1
  · exact h.2
theorem ids_zero (t : T) : (idsT t)[0]'(by rw [idsT_eq]; simp) = t.id := by simp only [idsT_eq, List.getElem_cons_zero]
end Tr
theorem pc_LawPaths (u : T) (hfit : fitB u = true) (hc : cntT u ≤ 1000000000) (n : Int) : PC Tryd.prog 8 [encU u, .int .i64 n] (.bool true) := by
  have ha := pc_awake6
  have hf := pc_Few u hfit 60 (by omega) (by omega)
  have hi := pc_IDs u hfit (by omega)
  have hil := idsT_len u
  refine PC_intro 1 (by simp only [pureD.pureL, pure_encU, pureD, Bool.and_self]) rfl (AC_intro [3000049, 3000052, 3000053, 5000054, 3000076, 3000079, 3000080, 5000081] Tryd.func8 rfl (by decide +kernel) mixed (by decide +kernel) (by simp [Tryd.ntmps8]) ?_)
  show awp _ _ (Code.seq _ _) _ _
  skip
  by_cases hb : fewB u 60 = true
  · obtain ⟨hs, hc2, hd⟩ := few_sz (by omega) (by omega) hb
    rw [hb] at hf
    have c1 := pc_Valid u hs (by omega) (by omega)
    by_cases hv : validT u = true
    · rw [hv] at c1
      by_cases hr : 0 ≤ n ∧ n < (idsT u).length
      · obtain ⟨k, rfl⟩ := Int.eq_ofNat_of_zero_le hr.1
        have hk : k < (idsT u).length := by omega
        by_cases hz : ∃ h : 1 < (idsT u).length, (idsT u)[1] = Idv.zero
        · obtain ⟨h1, hz⟩ := hz
          have hz1 : ∀ h, (idsT u)[Int.toNat 1]'h = Idv.zero := fun _ => hz
          repeat' (first | refine awp_assoc ?_ | ((first | refine awp_seq_reg fun K hK => ?_ | refine awp_seq_draw (by decide +kernel) fun K hK => ?_ | refine awp_reg' fun K hK => ?_ | refine awp_draw' (by decide +kernel) fun K hK => ?_ | refine callW_pc (ha) ?_ | refine callD_pc (ha) ?_ | refine callW_pc (hf) ?_ | refine callD_pc (hf) ?_ | refine callW_pc (hi) ?_ | refine callD_pc (hi) ?_ | refine callW_pc (c1) ?_ | refine callD_pc (c1) ?_); (simp (disch := omega) only [go_sem, Nat.reduceBEq, Nat.reduceBeqDiff, Nat.reduceEqDiff, ↓reduceIte, reduceCtorEq, Nat.reduceAdd, Nat.reduceMul, Nat.reduceLeDiff, Nat.reduceLT, Int.reduceLT, Int.reduceLE, Int.reduceEq, encIds, cellsId, hz, hz1])) | ((first | refine awp_seq_cond _ rfl (fun hc => ?_) (fun hc => ?_) | refine awp_cond _ rfl (fun hc => ?_) (fun hc => ?_)) <;> (first | (cases hc; done) | ((try simp only [boolS] at hc); (try (exfalso; omega))))) | refine awp_seq_block ?_ | refine awp_block ?_ | refine awp_seq_skip ?_ | refine awp_seq_ret ?_ | refine awp_seq_exit ?_ | refine awp_skip ?_ | refine awp_exit ?_ | refine awp_ret ?_ | refine seqK_n ?_ | refine seqK_e ?_ | refine seqK_r ?_ | refine blkK_n ?_ | refine blkK_e ?_ | refine blkK_o rfl ?_ | refine blkK_r ?_ | refine loopK_e ?_ | refine loopK_r ?_ | refine retQ_E (by (simp (disch := omega) only [go_sem, Nat.reduceBEq, Nat.reduceBeqDiff, Nat.reduceEqDiff, ↓reduceIte, reduceCtorEq, Nat.reduceAdd, Nat.reduceMul, Nat.reduceLeDiff, Nat.reduceLT, Int.reduceLT, Int.reduceLE, Int.reduceEq, encIds, cellsId, hz, hz1]); rfl) rfl ?_ | (refine hK _ ?_; clear hK K) | (refine stepG_split (fun hb => ?_) (fun hb => ?_) <;> (have hb2 := hb; try simp only [boolS] at hb2) <;> ((first | have hb3 : (_ : Bool) = _ := hb2 | have hb3 := eq_false hb2 | have hb3 := eq_true hb2); (simp (disch := omega) only [go_sem, Nat.reduceBEq, Nat.reduceBeqDiff, Nat.reduceEqDiff, ↓reduceIte, reduceCtorEq, Nat.reduceAdd, Nat.reduceMul, Nat.reduceLeDiff, Nat.reduceLT, Int.reduceLT, Int.reduceLE, Int.reduceEq, hb, hb3, encIds, cellsId, hz, hz1]); clear hb hb3; (try (exfalso; omega)))) | (exfalso; omega))
          all_goals first | exact fin_bool rfl | exact absurd h0 (by assumption)
        · have hnd := ids_nodup hv hz
          have hm : (idsT u)[k] ∈ idsT u := List.getElem_mem hk
          generalize hid : (idsT u)[k] = id at hm
          have hid1 : ∀ h, (idsT u)[Int.toNat (k : Int)]'h = id := fun _ => hid
          have hcz : 1 < (idsT u).length → ∀ h, ¬ (idsT u)[Int.toNat 1]'h = Idv.zero := fun h1 h e => hz ⟨h1, e⟩
          have c2 := pc_Find u (sz_sm u hs) (by omega) id
          have c3 := pc_Parent u (sz_sm u hs) (by omega) id
          have c4 := pc_Count u (sz_fit u hs) (by omega)
          have c5 := pc_Ancestors u (sz_sm u hs) (by omega) id
          have c6 := pc_Depth u (sz_fit u hs) (by omega)
          have hal := ancR_len id u
          have hfs := sz_find id u hs
          by_cases h0 : u.id = id
          · have hw := wayT_self h0
            rw [findR_self h0] at c2
            have hp : parR id u = (Idv.zero, -1, false) := by unfold parR; simp [hw]
            have han : ancR id u = [] := by unfold ancR; rw [hw]; rfl
            rw [hp] at c3
            rw [han] at c5
            have hk0 : k = 0 := by
              rcases Nat.eq_zero_or_pos k with h | h
              · exact h
              · exfalso
                have := List.pairwise_iff_getElem.1 hnd 0 k (by omega) hk h
                rw [ids_zero, hid] at this
                exact this h0
            subst hk0
            by_cases h1 : 1 < (idsT u).length
            · have hcz := hcz h1
              have hcy : ∀ h, ¬ (idsT u)[1]'h = Idv.zero := fun h e => hz ⟨h, e⟩
              repeat' (first | refine awp_assoc ?_ | ((first | refine awp_seq_reg fun K hK => ?_ | refine awp_seq_draw (by decide +kernel) fun K hK => ?_ | refine awp_reg' fun K hK => ?_ | refine awp_draw' (by decide +kernel) fun K hK => ?_ | refine callW_pc (ha) ?_ | refine callD_pc (ha) ?_ | refine callW_pc (hf) ?_ | refine callD_pc (hf) ?_ | refine callW_pc (hi) ?_ | refine callD_pc (hi) ?_ | refine callW_pc (c1) ?_ | refine callD_pc (c1) ?_ | refine callW_pc (c2) ?_ | refine callD_pc (c2) ?_ | refine callW_pc (c3) ?_ | refine callD_pc (c3) ?_ | refine callW_pc (c4) ?_ | refine callD_pc (c4) ?_ | refine callW_pc (c5) ?_ | refine callD_pc (c5) ?_); (simp (disch := omega) only [go_sem, Nat.reduceBEq, Nat.reduceBeqDiff, Nat.reduceEqDiff, ↓reduceIte, reduceCtorEq, Nat.reduceAdd, Nat.reduceMul, Nat.reduceLeDiff, Nat.reduceLT, Int.reduceLT, Int.reduceLE, Int.reduceEq, encIds, cellsId, hid, hid1, hcz, hcy, hil])) | ((first | refine awp_seq_cond _ rfl (fun hc => ?_) (fun hc => ?_) | refine awp_cond _ rfl (fun hc => ?_) (fun hc => ?_)) <;> (first | (cases hc; done) | ((try simp only [boolS] at hc); (try (exfalso; omega))))) | refine awp_seq_block ?_ | refine awp_block ?_ | refine awp_seq_skip ?_ | refine awp_seq_ret ?_ | refine awp_seq_exit ?_ | refine awp_skip ?_ | refine awp_exit ?_ | refine awp_ret ?_ | refine seqK_n ?_ | refine seqK_e ?_ | refine seqK_r ?_ | refine blkK_n ?_ | refine blkK_e ?_ | refine blkK_o rfl ?_ | refine blkK_r ?_ | refine loopK_e ?_ | refine loopK_r ?_ | refine retQ_E (by (simp (disch := omega) only [go_sem, Nat.reduceBEq, Nat.reduceBeqDiff, Nat.reduceEqDiff, ↓reduceIte, reduceCtorEq, Nat.reduceAdd, Nat.reduceMul, Nat.reduceLeDiff, Nat.reduceLT, Int.reduceLT, Int.reduceLE, Int.reduceEq, encIds, cellsId, hid, hid1, hcz, hcy, hil]); rfl) rfl ?_ | (refine hK _ ?_; clear hK K) | (refine stepG_split (fun hb => ?_) (fun hb => ?_) <;> (have hb2 := hb; try simp only [boolS] at hb2) <;> ((first | have hb3 : (_ : Bool) = _ := hb2 | have hb3 := eq_false hb2 | have hb3 := eq_true hb2); (simp (disch := omega) only [go_sem, Nat.reduceBEq, Nat.reduceBeqDiff, Nat.reduceEqDiff, ↓reduceIte, reduceCtorEq, Nat.reduceAdd, Nat.reduceMul, Nat.reduceLeDiff, Nat.reduceLT, Int.reduceLT, Int.reduceLE, Int.reduceEq, hb, hb3, encIds, cellsId, hid, hid1, hcz, hcy, hil]); clear hb hb3; (try (exfalso; omega)))) | (exfalso; omega))
              all_goals first | exact fin_bool rfl | exact absurd h0 (by assumption)
            · repeat' (first | refine awp_assoc ?_ | ((first | refine awp_seq_reg fun K hK => ?_ | refine awp_seq_draw (by decide +kernel) fun K hK => ?_ | refine awp_reg' fun K hK => ?_ | refine awp_draw' (by decide +kernel) fun K hK => ?_ | refine callW_pc (ha) ?_ | refine callD_pc (ha) ?_ | refine callW_pc (hf) ?_ | refine callD_pc (hf) ?_ | refine callW_pc (hi) ?_ | refine callD_pc (hi) ?_ | refine callW_pc (c1) ?_ | refine callD_pc (c1) ?_ | refine callW_pc (c2) ?_ | refine callD_pc (c2) ?_ | refine callW_pc (c3) ?_ | refine callD_pc (c3) ?_ | refine callW_pc (c4) ?_ | refine callD_pc (c4) ?_ | refine callW_pc (c5) ?_ | refine callD_pc (c5) ?_); (simp (disch := omega) only [go_sem, Nat.reduceBEq, Nat.reduceBeqDiff, Nat.reduceEqDiff, ↓reduceIte, reduceCtorEq, Nat.reduceAdd, Nat.reduceMul, Nat.reduceLeDiff, Nat.reduceLT, Int.reduceLT, Int.reduceLE, Int.reduceEq, encIds, cellsId, hid, hid1, hil])) | ((first | refine awp_seq_cond _ rfl (fun hc => ?_) (fun hc => ?_) | refine awp_cond _ rfl (fun hc => ?_) (fun hc => ?_)) <;> (first | (cases hc; done) | ((try simp only [boolS] at hc); (try (exfalso; omega))))) | refine awp_seq_block ?_ | refine awp_block ?_ | refine awp_seq_skip ?_ | refine awp_seq_ret ?_ | refine awp_seq_exit ?_ | refine awp_skip ?_ | refine awp_exit ?_ | refine awp_ret ?_ | refine seqK_n ?_ | refine seqK_e ?_ | refine seqK_r ?_ | refine blkK_n ?_ | refine blkK_e ?_ | refine blkK_o rfl ?_ | refine blkK_r ?_ | refine loopK_e ?_ | refine loopK_r ?_ | refine retQ_E (by (simp (disch := omega) only [go_sem, Nat.reduceBEq, Nat.reduceBeqDiff, Nat.reduceEqDiff, ↓reduceIte, reduceCtorEq, Nat.reduceAdd, Nat.reduceMul, Nat.reduceLeDiff, Nat.reduceLT, Int.reduceLT, Int.reduceLE, Int.reduceEq, encIds, cellsId, hid, hid1, hil]); rfl) rfl ?_ | (refine hK _ ?_; clear hK K) | (refine stepG_split (fun hb => ?_) (fun hb => ?_) <;> (have hb2 := hb; try simp only [boolS] at hb2) <;> ((first | have hb3 : (_ : Bool) = _ := hb2 | have hb3 := eq_false hb2 | have hb3 := eq_true hb2); (simp (disch := omega) only [go_sem, Nat.reduceBEq, Nat.reduceBeqDiff, Nat.reduceEqDiff, ↓reduceIte, reduceCtorEq, Nat.reduceAdd, Nat.reduceMul, Nat.reduceLeDiff, Nat.reduceLT, Int.reduceLT, Int.reduceLE, Int.reduceEq, hb, hb3, encIds, cellsId, hid, hid1, hil]); clear hb hb3; (try (exfalso; omega)))) | (exfalso; omega))
              all_goals first | exact fin_bool rfl | exact absurd h0 (by assumption)
          · obtain ⟨x, q, i, hqi, hx1, hx2, hpa, hq1, hqx, ⟨hl, ha0, hal1⟩, hdr, hxm, hqm⟩ := way_facts hnd hm h0
            have hk0 : ¬ (k : Int) = 0 := fun e => by
              have : k = 0 := by omega
              subst this
              exact h0 (by rw [← hid, ids_zero])
            rw [hx1] at c2
            rw [hpa] at c3
            have c7 := pc_Find u (sz_sm u hs) (by omega) q.id
            rw [hq1] at c7
            have hsx := sz_nodes u hs x hxm
            have hsq := sz_nodes u hs q hqm
            have c8 := pc_Equal x hsx x hsx
            rw [decide_eq_true rfl] at c8
            have c9 := pc_Ancestors u (sz_sm u hs) (by omega) q.id
            have hal2 := ancR_len q.id u
            have c10 := pc_RowsI (ancR q.id u) (ancR q.id u) (by unfold maxLen; omega) (by unfold maxLen; omega)
            rw [decide_eq_true rfl] at c10
            have hqk : q.kids[i] = x := hqx
            have h1 : 1 < (idsT u).length := by omega
            have hcz := hcz h1
            have hcy : ∀ h, ¬ (idsT u)[1]'h = Idv.zero := fun h e => hz ⟨h, e⟩
            have hqx1 : ∀ h, q.kids[Int.toNat (i : Int)]'h = x := fun _ => hqx
            have ha01 : ∀ h, (ancR id u)[Int.toNat 0]'h = q.id := fun _ => ha0
            have hal11 : ∀ h, (ancR id u)[Int.toNat ((ancR id u).length - 1 : Int)]'h = u.id := fun h => by
              have e : Int.toNat ((ancR id u).length - 1 : Int) = (ancR id u).length - 1 := by omega
              simp only [e]; exact hal1
            have hdr1 : List.drop (Int.toNat 1) (ancR id u) = ancR q.id u := hdr
            repeat' (first | refine awp_assoc ?_ | ((first | refine awp_seq_reg fun K hK => ?_ | refine awp_seq_draw (by decide +kernel) fun K hK => ?_ | refine awp_reg' fun K hK => ?_ | refine awp_draw' (by decide +kernel) fun K hK => ?_ | refine callW_pc (ha) ?_ | refine callD_pc (ha) ?_ | refine callW_pc (hf) ?_ | refine callD_pc (hf) ?_ | refine callW_pc (hi) ?_ | refine callD_pc (hi) ?_ | refine callW_pc (c1) ?_ | refine callD_pc (c1) ?_ | refine callW_pc (c2) ?_ | refine callD_pc (c2) ?_ | refine callW_pc (c3) ?_ | refine callD_pc (c3) ?_ | refine callW_pc (c4) ?_ | refine callD_pc (c4) ?_ | refine callW_pc (c5) ?_ | refine callD_pc (c5) ?_ | refine callW_pc (c6) ?_ | refine callD_pc (c6) ?_ | refine callW_pc (c7) ?_ | refine callD_pc (c7) ?_ | refine callW_pc (c8) ?_ | refine callD_pc (c8) ?_ | refine callW_pc (c9) ?_ | refine callD_pc (c9) ?_ | refine callW_pc (c10) ?_ | refine callD_pc (c10) ?_); (simp (disch := omega) only [go_sem, Nat.reduceBEq, Nat.reduceBeqDiff, Nat.reduceEqDiff, ↓reduceIte, reduceCtorEq, Nat.reduceAdd, Nat.reduceMul, Nat.reduceLeDiff, Nat.reduceLT, Int.reduceLT, Int.reduceLE, Int.reduceEq, encIds, cellsId, hid, hid1, hcz, hcy, hil, hx2, hqx, hqx1, ha0, ha01, hal1, hal11, hdr, hdr1, encUs])) | ((first | refine awp_seq_cond _ rfl (fun hc => ?_) (fun hc => ?_) | refine awp_cond _ rfl (fun hc => ?_) (fun hc => ?_)) <;> (first | (cases hc; done) | ((try simp only [boolS] at hc); (try (exfalso; omega))))) | refine awp_seq_block ?_ | refine awp_block ?_ | refine awp_seq_skip ?_ | refine awp_seq_ret ?_ | refine awp_seq_exit ?_ | refine awp_skip ?_ | refine awp_exit ?_ | refine awp_ret ?_ | refine seqK_n ?_ | refine seqK_e ?_ | refine seqK_r ?_ | refine blkK_n ?_ | refine blkK_e ?_ | refine blkK_o rfl ?_ | refine blkK_r ?_ | refine loopK_e ?_ | refine loopK_r ?_ | refine retQ_E (by (simp (disch := omega) only [go_sem, Nat.reduceBEq, Nat.reduceBeqDiff, Nat.reduceEqDiff, ↓reduceIte, reduceCtorEq, Nat.reduceAdd, Nat.reduceMul, Nat.reduceLeDiff, Nat.reduceLT, Int.reduceLT, Int.reduceLE, Int.reduceEq, encIds, cellsId, hid, hid1, hcz, hcy, hil, hx2, hqx, hqx1, ha0, ha01, hal1, hal11, hdr, hdr1, encUs]); rfl) rfl ?_ | (refine hK _ ?_; clear hK K) | (refine stepG_split (fun hb => ?_) (fun hb => ?_) <;> (have hb2 := hb; try simp only [boolS] at hb2) <;> ((first | have hb3 : (_ : Bool) = _ := hb2 | have hb3 := eq_false hb2 | have hb3 := eq_true hb2); (simp (disch := omega) only [go_sem, Nat.reduceBEq, Nat.reduceBeqDiff, Nat.reduceEqDiff, ↓reduceIte, reduceCtorEq, Nat.reduceAdd, Nat.reduceMul, Nat.reduceLeDiff, Nat.reduceLT, Int.reduceLT, Int.reduceLE, Int.reduceEq, hb, hb3, encIds, cellsId, hid, hid1, hcz, hcy, hil, hx2, hqx, hqx1, ha0, ha01, hal1, hal11, hdr, hdr1, encUs]); clear hb hb3; (try (exfalso; omega)))) | (exfalso; omega))
            all_goals first | exact fin_bool rfl | exact absurd h0 (by assumption)
      · repeat' (first | refine awp_assoc ?_ | ((first | refine awp_seq_reg fun K hK => ?_ | refine awp_seq_draw (by decide +kernel) fun K hK => ?_ | refine awp_reg' fun K hK => ?_ | refine awp_draw' (by decide +kernel) fun K hK => ?_ | refine callW_pc (ha) ?_ | refine callD_pc (ha) ?_ | refine callW_pc (hf) ?_ | refine callD_pc (hf) ?_ | refine callW_pc (hi) ?_ | refine callD_pc (hi) ?_ | refine callW_pc (c1) ?_ | refine callD_pc (c1) ?_); (simp (disch := omega) only [go_sem, Nat.reduceBEq, Nat.reduceBeqDiff, Nat.reduceEqDiff, ↓reduceIte, reduceCtorEq, Nat.reduceAdd, Nat.reduceMul, Nat.reduceLeDiff, Nat.reduceLT, Int.reduceLT, Int.reduceLE, Int.reduceEq, encIds, cellsId])) | ((first | refine awp_seq_cond _ rfl (fun hc => ?_) (fun hc => ?_) | refine awp_cond _ rfl (fun hc => ?_) (fun hc => ?_)) <;> (first | (cases hc; done) | ((try simp only [boolS] at hc); (try (exfalso; omega))))) | refine awp_seq_block ?_ | refine awp_block ?_ | refine awp_seq_skip ?_ | refine awp_seq_ret ?_ | refine awp_seq_exit ?_ | refine awp_skip ?_ | refine awp_exit ?_ | refine awp_ret ?_ | refine seqK_n ?_ | refine seqK_e ?_ | refine seqK_r ?_ | refine blkK_n ?_ | refine blkK_e ?_ | refine blkK_o rfl ?_ | refine blkK_r ?_ | refine loopK_e ?_ | refine loopK_r ?_ | refine retQ_E (by (simp (disch := omega) only [go_sem, Nat.reduceBEq, Nat.reduceBeqDiff, Nat.reduceEqDiff, ↓reduceIte, reduceCtorEq, Nat.reduceAdd, Nat.reduceMul, Nat.reduceLeDiff, Nat.reduceLT, Int.reduceLT, Int.reduceLE, Int.reduceEq, encIds, cellsId]); rfl) rfl ?_ | (refine hK _ ?_; clear hK K) | (refine stepG_split (fun hb => ?_) (fun hb => ?_) <;> (have hb2 := hb; try simp only [boolS] at hb2) <;> ((first | have hb3 : (_ : Bool) = _ := hb2 | have hb3 := eq_false hb2 | have hb3 := eq_true hb2); (simp (disch := omega) only [go_sem, Nat.reduceBEq, Nat.reduceBeqDiff, Nat.reduceEqDiff, ↓reduceIte, reduceCtorEq, Nat.reduceAdd, Nat.reduceMul, Nat.reduceLeDiff, Nat.reduceLT, Int.reduceLT, Int.reduceLE, Int.reduceEq, hb, hb3, encIds, cellsId]); clear hb hb3; (try (exfalso; omega)))) | (exfalso; omega))
        all_goals first | exact fin_bool rfl | exact absurd h0 (by assumption)
    · rw [Bool.not_eq_true] at hv
      rw [hv] at c1
      repeat' (first | refine awp_assoc ?_ | ((first | refine awp_seq_reg fun K hK => ?_ | refine awp_seq_draw (by decide +kernel) fun K hK => ?_ | refine awp_reg' fun K hK => ?_ | refine awp_draw' (by decide +kernel) fun K hK => ?_ | refine callW_pc (ha) ?_ | refine callD_pc (ha) ?_ | refine callW_pc (hf) ?_ | refine callD_pc (hf) ?_ | refine callW_pc (hi) ?_ | refine callD_pc (hi) ?_ | refine callW_pc (c1) ?_ | refine callD_pc (c1) ?_); (simp (disch := omega) only [go_sem, Nat.reduceBEq, Nat.reduceBeqDiff, Nat.reduceEqDiff, ↓reduceIte, reduceCtorEq, Nat.reduceAdd, Nat.reduceMul, Nat.reduceLeDiff, Nat.reduceLT, Int.reduceLT, Int.reduceLE, Int.reduceEq])) | ((first | refine awp_seq_cond _ rfl (fun hc => ?_) (fun hc => ?_) | refine awp_cond _ rfl (fun hc => ?_) (fun hc => ?_)) <;> (first | (cases hc; done) | ((try simp only [boolS] at hc); (try (exfalso; omega))))) | refine awp_seq_block ?_ | refine awp_block ?_ | refine awp_seq_skip ?_ | refine awp_seq_ret ?_ | refine awp_seq_exit ?_ | refine awp_skip ?_ | refine awp_exit ?_ | refine awp_ret ?_ | refine seqK_n ?_ | refine seqK_e ?_ | refine seqK_r ?_ | refine blkK_n ?_ | refine blkK_e ?_ | refine blkK_o rfl ?_ | refine blkK_r ?_ | refine loopK_e ?_ | refine loopK_r ?_ | refine retQ_E (by (simp (disch := omega) only [go_sem, Nat.reduceBEq, Nat.reduceBeqDiff, Nat.reduceEqDiff, ↓reduceIte, reduceCtorEq, Nat.reduceAdd, Nat.reduceMul, Nat.reduceLeDiff, Nat.reduceLT, Int.reduceLT, Int.reduceLE, Int.reduceEq]); rfl) rfl ?_ | (refine hK _ ?_; clear hK K) | (refine stepG_split (fun hb => ?_) (fun hb => ?_) <;> (have hb2 := hb; try simp only [boolS] at hb2) <;> ((first | have hb3 : (_ : Bool) = _ := hb2 | have hb3 := eq_false hb2 | have hb3 := eq_true hb2); (simp (disch := omega) only [go_sem, Nat.reduceBEq, Nat.reduceBeqDiff, Nat.reduceEqDiff, ↓reduceIte, reduceCtorEq, Nat.reduceAdd, Nat.reduceMul, Nat.reduceLeDiff, Nat.reduceLT, Int.reduceLT, Int.reduceLE, Int.reduceEq, hb, hb3]); clear hb hb3; (try (exfalso; omega)))) | (exfalso; omega))
      exact fin_bool rfl
  · rw [Bool.not_eq_true] at hb
    rw [hb] at hf
    repeat' (first | refine awp_assoc ?_ | ((first | refine awp_seq_reg fun K hK => ?_ | refine awp_seq_draw (by decide +kernel) fun K hK => ?_ | refine awp_reg' fun K hK => ?_ | refine awp_draw' (by decide +kernel) fun K hK => ?_ | refine callW_pc (ha) ?_ | refine callD_pc (ha) ?_ | refine callW_pc (hf) ?_ | refine callD_pc (hf) ?_ | refine callW_pc (hi) ?_ | refine callD_pc (hi) ?_); (simp (disch := omega) only [go_sem, Nat.reduceBEq, Nat.reduceBeqDiff, Nat.reduceEqDiff, ↓reduceIte, reduceCtorEq, Nat.reduceAdd, Nat.reduceMul, Nat.reduceLeDiff, Nat.reduceLT, Int.reduceLT, Int.reduceLE, Int.reduceEq])) | ((first | refine awp_seq_cond _ rfl (fun hc => ?_) (fun hc => ?_) | refine awp_cond _ rfl (fun hc => ?_) (fun hc => ?_)) <;> (first | (cases hc; done) | ((try simp only [boolS] at hc); (try (exfalso; omega))))) | refine awp_seq_block ?_ | refine awp_block ?_ | refine awp_seq_skip ?_ | refine awp_seq_ret ?_ | refine awp_seq_exit ?_ | refine awp_skip ?_ | refine awp_exit ?_ | refine awp_ret ?_ | refine seqK_n ?_ | refine seqK_e ?_ | refine seqK_r ?_ | refine blkK_n ?_ | refine blkK_e ?_ | refine blkK_o rfl ?_ | refine blkK_r ?_ | refine loopK_e ?_ | refine loopK_r ?_ | refine retQ_E (by (simp (disch := omega) only [go_sem, Nat.reduceBEq, Nat.reduceBeqDiff, Nat.reduceEqDiff, ↓reduceIte, reduceCtorEq, Nat.reduceAdd, Nat.reduceMul, Nat.reduceLeDiff, Nat.reduceLT, Int.reduceLT, Int.reduceLE, Int.reduceEq]); rfl) rfl ?_ | (refine hK _ ?_; clear hK K) | (refine stepG_split (fun hb => ?_) (fun hb => ?_) <;> (have hb2 := hb; try simp only [boolS] at hb2) <;> ((first | have hb3 : (_ : Bool) = _ := hb2 | have hb3 := eq_false hb2 | have hb3 := eq_true hb2); (simp (disch := omega) only [go_sem, Nat.reduceBEq, Nat.reduceBeqDiff, Nat.reduceEqDiff, ↓reduceIte, reduceCtorEq, Nat.reduceAdd, Nat.reduceMul, Nat.reduceLeDiff, Nat.reduceLT, Int.reduceLT, Int.reduceLE, Int.reduceEq, hb, hb3]); clear hb hb3; (try (exfalso; omega)))) | (exfalso; omega))
    exact fin_bool rfl
end Go.Proofs.YtkhjpcmpljpmjaaDoor
