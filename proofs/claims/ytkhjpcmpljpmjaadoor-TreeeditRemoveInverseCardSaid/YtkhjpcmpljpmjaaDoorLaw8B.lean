/-
  The laws TreeeditRemoveInverse, TreeeditMoveInverse, TreeeditMoves. No condition but lengths.
-/
import Derived.Test.YtkhjpcmpljpmjaaDoorLaw8A
import Derived.Test.YtkhjpcmpljpmjaaDoorEdMoveB
import Derived.Test.YtkhjpcmpljpmjaaDoorRefMove
set_option maxRecDepth 100000
set_option maxHeartbeats 8000000
set_option linter.unusedSimpArgs false
set_option linter.unusedVariables false
namespace Go.Proofs.YtkhjpcmpljpmjaaDoor
open Abs Facts Tr
attribute [local irreducible] awp
namespace Tr
theorem dep8 {t : T} (h : standsT t = true) : depT t ≤ 8 := ((stands_iff t).1 h).2.1
theorem take_zero {u x : T} {id : Idv} (h1 : standsT u = true) (h2 : findR id u = (x, true)) (h3 : ¬ u.id = id) : takeE u id = 0 := by
  unfold takeE; rw [if_neg (by rw [h1]; simp), if_neg (by rw [h2]; simp), if_neg h3]
theorem sz_moveE {u : T} (hu : szB u = true) (id parent : Idv) (i : Int) : szB (if moveE u id parent i = 0 then editT parent (insK i.toNat (findR id u).1) (wipeT id u) else T.zero) = true := by
  by_cases h : moveE u id parent i = 0
  · rw [if_pos h]
    obtain ⟨_, _, _, _, _, hw⟩ := move_ok h
    obtain ⟨_, _, n, rfl, _⟩ := wrong_ok hw
    exact sz_inserted (sz_wipe u hu) (sz_find id u hu) hw
  · rw [if_neg h]; exact sz_zero
/-- A move, and the move back. -/
theorem move_facts {u : T} {id parent : Idv} {m : Nat} (h : moveE u id parent m = 0) : ∃ (under : Idv) (n : Nat), parR id u = (under, (n : Int), true) ∧
    parR id (editT parent (insK m (findR id u).1) (wipeT id u)) = (parent, (m : Int), true) ∧ moveE (editT parent (insK m (findR id u).1) (wipeT id u)) id under n = 0 ∧
    editT under (insK n (findR id (editT parent (insK m (findR id u).1) (wipeT id u))).1) (wipeT id (editT parent (insK m (findR id u).1) (wipeT id u))) = u ∧
    standsT (editT parent (insK m (findR id u).1) (wipeT id u)) = true ∧ cntT (editT parent (insK m (findR id u).1) (wipeT id u)) = cntT u := by
  obtain ⟨h1, h2, h3, h4, h5, hw⟩ := move_ok h
  obtain ⟨under, n, x, d1, d2, d3, d4, d5, d6, d7, d8, d9, d10, d11, d12⟩ := del_facts h1 h4 h2
  rw [d2] at hw h5 ⊢
  simp only at hw h5 ⊢
  obtain ⟨C, q, l, r, _, _, _, _, f1, f2, f3, f4, f5, _, f7, f8⟩ := ins_facts hw
  rw [d3] at f2 f3 f4 f5
  refine ⟨under, n, d1, f4, ?_, by rw [f3, f2]; exact d8, f1, by omega⟩
  refine move_zero f1 f3 ?_ f5 (fun hm => d9 under hm d10) (by rw [f2]; exact d7)
  -- the old parent is still there
  have hu : under ∈ idsT (wipeT id u) := d10
  obtain ⟨C', q', l', r', e1, _, _, e2, _⟩ := ins_facts hw
  rw [e2, ids_plug, ids_set, List.flatMap_append, List.flatMap_cons]
  rw [e1, ids_plug, ids_set, List.flatMap_append] at hu
  simp only [List.mem_append, List.mem_cons] at hu ⊢
  rcases hu with h | (h | h | h) | h
  · exact .inl h
  · exact .inr (.inl (.inl h))
  · exact .inr (.inl (.inr (.inl h)))
  · exact .inr (.inl (.inr (.inr (.inr h))))
  · exact .inr (.inr h)
end Tr
theorem pc_LawMoveInverse (u : T) (hfu : fitB u = true) (id parent : Idv) (i : Int) : PC Tryd.prog 10 [encU u, encId id, encId parent, .int .i64 i] (.bool true) := by
  have ha := pc_awake8
  have hf1 := pc_Few u hfu 30 (by omega) (by omega)
  refine PC_intro 1 (by simp only [pureD.pureL, pure_encU, pureD, Bool.and_self]; rfl) rfl (AC_intro [] Tryd.func10 rfl (by decide +kernel) mixed (by decide +kernel) (by simp [Tryd.ntmps10]) ?_)
  show awp _ _ (Code.seq _ _) _ _
  skip
  by_cases h1 : fewB u 30 = true
  · obtain ⟨hsu, hcu, hdu⟩ := few_sz (by omega) (by omega) h1
    rw [h1] at hf1
    have c1 := pc_Move u hsu (by omega) (by omega) id parent i
    have z1 := sz_moveE hsu id parent i
    by_cases hw : moveE u id parent i = 0
    · obtain ⟨_, _, _, _, _, hwr⟩ := move_ok hw
      obtain ⟨_, _, m, rfl, _⟩ := wrong_ok hwr
      obtain ⟨under, n, p1, p2, p3, p4, p5, p6⟩ := move_facts hw
      rw [hw, if_pos rfl, Int.toNat_natCast] at c1
      rw [if_pos hw, Int.toNat_natCast] at z1
      generalize editT parent (insK m (findR id u).1) (wipeT id u) = v at c1 z1 p2 p3 p4 p5 p6
      have dv := dep8 p5
      have c2 := pc_ParentR id u hsu
      rw [p1] at c2
      have c3 := pc_ParentR id v z1
      rw [p2] at c3
      have c4 := pc_Move v z1 (by omega) (by omega) id under n
      rw [p3, if_pos rfl, Int.toNat_natCast, p4] at c4
      have c5 := pc_Same u hsu u hsu
      rw [decide_eq_true rfl] at c5
      have hid : decide (parent = parent) = true := decide_eq_true rfl
      repeat' (first | refine awp_assoc ?_ | ((first | refine awp_seq_reg fun K hK => ?_ | refine awp_seq_draw (by decide +kernel) fun K hK => ?_ | refine awp_reg' fun K hK => ?_ | refine awp_draw' (by decide +kernel) fun K hK => ?_ | refine callW_pc (ha) ?_ | refine callD_pc (ha) ?_ | refine callW_pc (hf1) ?_ | refine callD_pc (hf1) ?_ | refine callW_pc (c1) ?_ | refine callD_pc (c1) ?_ | refine callW_pc (c2) ?_ | refine callD_pc (c2) ?_ | refine callW_pc (c3) ?_ | refine callD_pc (c3) ?_ | refine callW_pc (c4) ?_ | refine callD_pc (c4) ?_ | refine callW_pc (c5) ?_ | refine callD_pc (c5) ?_); (simp (disch := omega) only [go_sem, Nat.reduceBEq, Nat.reduceBeqDiff, Nat.reduceEqDiff, ↓reduceIte, reduceCtorEq, Nat.reduceAdd, Nat.reduceMul, Nat.reduceLeDiff, Nat.reduceLT, Int.reduceLT, Int.reduceLE, Int.reduceEq, cellsId, hid])) | ((first | refine awp_seq_cond _ rfl (fun hc => ?_) (fun hc => ?_) | refine awp_cond _ rfl (fun hc => ?_) (fun hc => ?_)) <;> (first | (cases hc; done) | ((try simp only [boolS] at hc); (try (exfalso; omega))))) | refine awp_seq_block ?_ | refine awp_block ?_ | refine awp_seq_skip ?_ | refine awp_seq_ret ?_ | refine awp_seq_exit ?_ | refine awp_skip ?_ | refine awp_exit ?_ | refine awp_ret ?_ | refine seqK_n ?_ | refine seqK_e ?_ | refine seqK_r ?_ | refine blkK_n ?_ | refine blkK_e ?_ | refine blkK_o rfl ?_ | refine blkK_r ?_ | refine loopK_e ?_ | refine loopK_r ?_ | refine retQ_E (by (simp (disch := omega) only [go_sem, Nat.reduceBEq, Nat.reduceBeqDiff, Nat.reduceEqDiff, ↓reduceIte, reduceCtorEq, Nat.reduceAdd, Nat.reduceMul, Nat.reduceLeDiff, Nat.reduceLT, Int.reduceLT, Int.reduceLE, Int.reduceEq, cellsId, hid]); rfl) rfl ?_ | (refine hK _ ?_; clear hK K) | (refine stepG_split (fun hb => ?_) (fun hb => ?_) <;> (have hb2 := hb; try simp only [boolS] at hb2) <;> ((first | have hb3 : (_ : Bool) = _ := hb2 | have hb3 := eq_false hb2 | have hb3 := eq_true hb2); (simp (disch := omega) only [go_sem, Nat.reduceBEq, Nat.reduceBeqDiff, Nat.reduceEqDiff, ↓reduceIte, reduceCtorEq, Nat.reduceAdd, Nat.reduceMul, Nat.reduceLeDiff, Nat.reduceLT, Int.reduceLT, Int.reduceLE, Int.reduceEq, hb, hb3, cellsId, hid]); clear hb hb3; (try (exfalso; omega)))) | (exfalso; omega))
      exact fin_bool rfl
    · rw [if_neg hw] at c1
      have hk : T.zero.kids = [] := rfl
      repeat' (first | refine awp_assoc ?_ | ((first | refine awp_seq_reg fun K hK => ?_ | refine awp_seq_draw (by decide +kernel) fun K hK => ?_ | refine awp_reg' fun K hK => ?_ | refine awp_draw' (by decide +kernel) fun K hK => ?_ | refine callW_pc (ha) ?_ | refine callD_pc (ha) ?_ | refine callW_pc (hf1) ?_ | refine callD_pc (hf1) ?_ | refine callW_pc (c1) ?_ | refine callD_pc (c1) ?_); (simp (disch := omega) only [go_sem, Nat.reduceBEq, Nat.reduceBeqDiff, Nat.reduceEqDiff, ↓reduceIte, reduceCtorEq, Nat.reduceAdd, Nat.reduceMul, Nat.reduceLeDiff, Nat.reduceLT, Int.reduceLT, Int.reduceLE, Int.reduceEq, cellsId, encUs, hk])) | ((first | refine awp_seq_cond _ rfl (fun hc => ?_) (fun hc => ?_) | refine awp_cond _ rfl (fun hc => ?_) (fun hc => ?_)) <;> (first | (cases hc; done) | ((try simp only [boolS] at hc); (try (exfalso; omega))))) | refine awp_seq_block ?_ | refine awp_block ?_ | refine awp_seq_skip ?_ | refine awp_seq_ret ?_ | refine awp_seq_exit ?_ | refine awp_skip ?_ | refine awp_exit ?_ | refine awp_ret ?_ | refine seqK_n ?_ | refine seqK_e ?_ | refine seqK_r ?_ | refine blkK_n ?_ | refine blkK_e ?_ | refine blkK_o rfl ?_ | refine blkK_r ?_ | refine loopK_e ?_ | refine loopK_r ?_ | refine retQ_E (by (simp (disch := omega) only [go_sem, Nat.reduceBEq, Nat.reduceBeqDiff, Nat.reduceEqDiff, ↓reduceIte, reduceCtorEq, Nat.reduceAdd, Nat.reduceMul, Nat.reduceLeDiff, Nat.reduceLT, Int.reduceLT, Int.reduceLE, Int.reduceEq, cellsId, encUs, hk]); rfl) rfl ?_ | (refine hK _ ?_; clear hK K) | (refine stepG_split (fun hb => ?_) (fun hb => ?_) <;> (have hb2 := hb; try simp only [boolS] at hb2) <;> ((first | have hb3 : (_ : Bool) = _ := hb2 | have hb3 := eq_false hb2 | have hb3 := eq_true hb2); (simp (disch := omega) only [go_sem, Nat.reduceBEq, Nat.reduceBeqDiff, Nat.reduceEqDiff, ↓reduceIte, reduceCtorEq, Nat.reduceAdd, Nat.reduceMul, Nat.reduceLeDiff, Nat.reduceLT, Int.reduceLT, Int.reduceLE, Int.reduceEq, hb, hb3, cellsId, encUs, hk]); clear hb hb3; (try (exfalso; omega)))) | (exfalso; omega))
      exact fin_bool rfl
  · rw [Bool.not_eq_true] at h1
    rw [h1] at hf1
    repeat' (first | refine awp_assoc ?_ | ((first | refine awp_seq_reg fun K hK => ?_ | refine awp_seq_draw (by decide +kernel) fun K hK => ?_ | refine awp_reg' fun K hK => ?_ | refine awp_draw' (by decide +kernel) fun K hK => ?_ | refine callW_pc (ha) ?_ | refine callD_pc (ha) ?_ | refine callW_pc (hf1) ?_ | refine callD_pc (hf1) ?_); (simp (disch := omega) only [go_sem, Nat.reduceBEq, Nat.reduceBeqDiff, Nat.reduceEqDiff, ↓reduceIte, reduceCtorEq, Nat.reduceAdd, Nat.reduceMul, Nat.reduceLeDiff, Nat.reduceLT, Int.reduceLT, Int.reduceLE, Int.reduceEq, cellsId])) | ((first | refine awp_seq_cond _ rfl (fun hc => ?_) (fun hc => ?_) | refine awp_cond _ rfl (fun hc => ?_) (fun hc => ?_)) <;> (first | (cases hc; done) | ((try simp only [boolS] at hc); (try (exfalso; omega))))) | refine awp_seq_block ?_ | refine awp_block ?_ | refine awp_seq_skip ?_ | refine awp_seq_ret ?_ | refine awp_seq_exit ?_ | refine awp_skip ?_ | refine awp_exit ?_ | refine awp_ret ?_ | refine seqK_n ?_ | refine seqK_e ?_ | refine seqK_r ?_ | refine blkK_n ?_ | refine blkK_e ?_ | refine blkK_o rfl ?_ | refine blkK_r ?_ | refine loopK_e ?_ | refine loopK_r ?_ | refine retQ_E (by (simp (disch := omega) only [go_sem, Nat.reduceBEq, Nat.reduceBeqDiff, Nat.reduceEqDiff, ↓reduceIte, reduceCtorEq, Nat.reduceAdd, Nat.reduceMul, Nat.reduceLeDiff, Nat.reduceLT, Int.reduceLT, Int.reduceLE, Int.reduceEq, cellsId]); rfl) rfl ?_ | (refine hK _ ?_; clear hK K) | (refine stepG_split (fun hb => ?_) (fun hb => ?_) <;> (have hb2 := hb; try simp only [boolS] at hb2) <;> ((first | have hb3 : (_ : Bool) = _ := hb2 | have hb3 := eq_false hb2 | have hb3 := eq_true hb2); (simp (disch := omega) only [go_sem, Nat.reduceBEq, Nat.reduceBeqDiff, Nat.reduceEqDiff, ↓reduceIte, reduceCtorEq, Nat.reduceAdd, Nat.reduceMul, Nat.reduceLeDiff, Nat.reduceLT, Int.reduceLT, Int.reduceLE, Int.reduceEq, hb, hb3, cellsId]); clear hb hb3; (try (exfalso; omega)))) | (exfalso; omega))
    exact fin_bool rfl
theorem pc_LawRemoveInverse (u x : T) (hfu : fitB u = true) (hfx : fitB x = true) (parent id : Idv) (i : Int) : PC Tryd.prog 9 [encU u, encId parent, .int .i64 i, encU x, encId id] (.bool true) := by
  have ha := pc_awake8
  have hf1 := pc_Few u hfu 30 (by omega) (by omega)
  have hf2 := pc_Few x hfx 30 (by omega) (by omega)
  refine PC_intro 1 (by simp only [pureD.pureL, pure_encU, pureD, Bool.and_self]; rfl) rfl (AC_intro [] Tryd.func9 rfl (by decide +kernel) mixed (by decide +kernel) (by simp [Tryd.ntmps9]) ?_)
  show awp _ _ (Code.seq _ _) _ _
  skip
  by_cases h1 : fewB u 30 = true
  · by_cases h2 : fewB x 30 = true
    · obtain ⟨hsu, hcu, hdu⟩ := few_sz (by omega) (by omega) h1
      obtain ⟨hsx, hcx, hdx⟩ := few_sz (by omega) (by omega) h2
      rw [h1] at hf1
      rw [h2] at hf2
      have c1 := pc_Insert u x hsu hsx (by omega) (by omega) (by omega) (by omega) parent i
      by_cases hw : wrongT u parent i x = 0
      · obtain ⟨_, _, m, rfl, _⟩ := wrong_ok hw
        obtain ⟨C, q, l, r, _, _, _, _, f1, f2, f3, f4, f5, _, f7, f8⟩ := ins_facts hw
        have zv := sz_inserted hsu hsx hw
        rw [hw, if_neg (fun h => h rfl), Int.toNat_natCast] at c1
        generalize editT parent (insK m x) u = v at c1 f1 f2 f3 f4 f5 f8 zv
        have dv := dep8 f1
        have c2 := pc_Remove v zv (by omega) (by omega) x.id
        rw [take_zero f1 f3 f5, if_pos rfl, if_pos rfl, f2, f3] at c2
        have c3 := pc_Same u hsu u hsu
        have c4 := pc_Same x hsx x hsx
        rw [decide_eq_true rfl] at c3 c4
        repeat' (first | refine awp_assoc ?_ | ((first | refine awp_seq_regX (N := 8) rfl fun K hK => ?_ | refine awp_seq_drawX (N := 8) rfl (by decide +kernel) fun K hK => ?_ | refine callW_pc (hf1) ?_ | refine callD_pc (hf1) ?_ | refine callW_pc (hf2) ?_ | refine callD_pc (hf2) ?_ | refine callW_pc (c1) ?_ | refine callD_pc (c1) ?_ | refine callW_pc (c2) ?_ | refine callD_pc (c2) ?_ | refine callW_pc (c3) ?_ | refine callD_pc (c3) ?_ | refine callW_pc (c4) ?_ | refine callD_pc (c4) ?_); (simp (disch := omega) only [go_sem, Nat.reduceBEq, Nat.reduceBeqDiff, Nat.reduceEqDiff, ↓reduceIte, reduceCtorEq, Nat.reduceAdd, Nat.reduceMul, Nat.reduceLeDiff, Nat.reduceLT, Int.reduceLT, Int.reduceLE, Int.reduceEq, cellsId])) | ((first | refine awp_seq_cond _ rfl (fun hc => ?_) (fun hc => ?_) | refine awp_cond _ rfl (fun hc => ?_) (fun hc => ?_)) <;> (first | (cases hc; done) | ((try simp only [boolS] at hc); (try (exfalso; omega))))) | refine awp_seq_block ?_ | refine awp_block ?_ | refine awp_seq_skip ?_ | refine awp_seq_ret ?_ | refine awp_seq_exit ?_ | refine awp_skip ?_ | refine awp_exit ?_ | refine awp_ret ?_ | refine seqK_n ?_ | refine seqK_e ?_ | refine seqK_r ?_ | refine blkK_n ?_ | refine blkK_e ?_ | refine blkK_o rfl ?_ | refine blkK_r ?_ | refine loopK_e ?_ | refine loopK_r ?_ | refine retQ_E (by (simp (disch := omega) only [go_sem, Nat.reduceBEq, Nat.reduceBeqDiff, Nat.reduceEqDiff, ↓reduceIte, reduceCtorEq, Nat.reduceAdd, Nat.reduceMul, Nat.reduceLeDiff, Nat.reduceLT, Int.reduceLT, Int.reduceLE, Int.reduceEq, cellsId]); rfl) rfl ?_ | (refine hK _ ?_; clear hK K) | (refine stepG_split (fun hb => ?_) (fun hb => ?_) <;> (have hb2 := hb; try simp only [boolS] at hb2) <;> ((first | have hb3 : (_ : Bool) = _ := hb2 | have hb3 := eq_false hb2 | have hb3 := eq_true hb2); (simp (disch := omega) only [go_sem, Nat.reduceBEq, Nat.reduceBeqDiff, Nat.reduceEqDiff, ↓reduceIte, reduceCtorEq, Nat.reduceAdd, Nat.reduceMul, Nat.reduceLeDiff, Nat.reduceLT, Int.reduceLT, Int.reduceLE, Int.reduceEq, hb, hb3, cellsId]); clear hb hb3; (try (exfalso; omega)))) | (exfalso; omega))
        (refine awp_cut (fun st => st.t 5 = .ptr 0 0 ∧ st.t 9 = .ptr 3 0 ∧ st.H 0 = some (.box 27 (cellsU u)) ∧ st.H 3 = some (.box 23 (cellsId id)) ∧ (4 ≤ st.nx)) ?_ ?_); rotate_left; (rintro st ⟨p5, p9, pH0, pH3, pp0⟩); rotate_left
        · (simp (disch := omega) only [go_sem, Nat.reduceBEq, Nat.reduceBeqDiff, Nat.reduceEqDiff, ↓reduceIte, reduceCtorEq, Nat.reduceAdd, Nat.reduceMul, Nat.reduceLeDiff, Nat.reduceLT, Int.reduceLT, Int.reduceLE, Int.reduceEq, true_and, and_true, and_self, cellsId])
          try omega
        by_cases ht : takeE u id = 0
        · obtain ⟨t1, t2, t3⟩ := take_ok ht
          obtain ⟨under, n, y, d1, d2, d3, d4, d5, d6, d7, d8, d9, d10, d11, d12⟩ := del_facts t1 t3 t2
          have zy : szB y = true := by have := sz_find id u hsu; rw [d2] at this; exact this
          have k1 := pc_Remove u hsu (by omega) (by omega) id
          rw [ht, if_pos rfl, if_pos rfl, d2] at k1
          have k2 := pc_ParentR id u hsu
          rw [d1] at k2
          have k3 := pc_Insert (wipeT id u) y (sz_wipe u hsu) zy (by omega) (by omega) (by have := dep8 d4; omega) (by have := dep8 d5; omega) under n
          rw [d7, if_neg (fun h => h rfl), Int.toNat_natCast, d8] at k3
          have k4 := pc_Same u hsu u hsu
          rw [decide_eq_true rfl] at k4
          repeat' (first | refine awp_assoc ?_ | ((first | refine awp_seq_reg fun K hK => ?_ | refine awp_seq_draw (by decide +kernel) fun K hK => ?_ | refine awp_reg' fun K hK => ?_ | refine awp_draw' (by decide +kernel) fun K hK => ?_ | refine callW_pc (ha) ?_ | refine callD_pc (ha) ?_ | refine callW_pc (k1) ?_ | refine callD_pc (k1) ?_ | refine callW_pc (k2) ?_ | refine callD_pc (k2) ?_ | refine callW_pc (k3) ?_ | refine callD_pc (k3) ?_ | refine callW_pc (k4) ?_ | refine callD_pc (k4) ?_); (simp (disch := omega) only [go_sem, Nat.reduceBEq, Nat.reduceBeqDiff, Nat.reduceEqDiff, ↓reduceIte, reduceCtorEq, Nat.reduceAdd, Nat.reduceMul, Nat.reduceLeDiff, Nat.reduceLT, Int.reduceLT, Int.reduceLE, Int.reduceEq, p5, p9, pH0, pH3, cellsId])) | ((first | refine awp_seq_cond _ rfl (fun hc => ?_) (fun hc => ?_) | refine awp_cond _ rfl (fun hc => ?_) (fun hc => ?_)) <;> (first | (cases hc; done) | ((try simp only [boolS] at hc); (try (exfalso; omega))))) | refine awp_seq_block ?_ | refine awp_block ?_ | refine awp_seq_skip ?_ | refine awp_seq_ret ?_ | refine awp_seq_exit ?_ | refine awp_skip ?_ | refine awp_exit ?_ | refine awp_ret ?_ | refine seqK_n ?_ | refine seqK_e ?_ | refine seqK_r ?_ | refine blkK_n ?_ | refine blkK_e ?_ | refine blkK_o rfl ?_ | refine blkK_r ?_ | refine loopK_e ?_ | refine loopK_r ?_ | refine retQ_E (by (simp (disch := omega) only [go_sem, Nat.reduceBEq, Nat.reduceBeqDiff, Nat.reduceEqDiff, ↓reduceIte, reduceCtorEq, Nat.reduceAdd, Nat.reduceMul, Nat.reduceLeDiff, Nat.reduceLT, Int.reduceLT, Int.reduceLE, Int.reduceEq, p5, p9, pH0, pH3, cellsId]); rfl) rfl ?_ | (refine hK _ ?_; clear hK K) | (refine stepG_split (fun hb => ?_) (fun hb => ?_) <;> (have hb2 := hb; try simp only [boolS] at hb2) <;> ((first | have hb3 : (_ : Bool) = _ := hb2 | have hb3 := eq_false hb2 | have hb3 := eq_true hb2); (simp (disch := omega) only [go_sem, Nat.reduceBEq, Nat.reduceBeqDiff, Nat.reduceEqDiff, ↓reduceIte, reduceCtorEq, Nat.reduceAdd, Nat.reduceMul, Nat.reduceLeDiff, Nat.reduceLT, Int.reduceLT, Int.reduceLE, Int.reduceEq, hb, hb3, p5, p9, pH0, pH3, cellsId]); clear hb hb3; (try (exfalso; omega)))) | (exfalso; omega))
          exact fin_bool rfl
        · have k1 := pc_Remove u hsu (by omega) (by omega) id
          rw [if_neg ht, if_neg ht] at k1
          repeat' (first | refine awp_assoc ?_ | ((first | refine awp_seq_reg fun K hK => ?_ | refine awp_seq_draw (by decide +kernel) fun K hK => ?_ | refine awp_reg' fun K hK => ?_ | refine awp_draw' (by decide +kernel) fun K hK => ?_ | refine callW_pc (ha) ?_ | refine callD_pc (ha) ?_ | refine callW_pc (k1) ?_ | refine callD_pc (k1) ?_); (simp (disch := omega) only [go_sem, Nat.reduceBEq, Nat.reduceBeqDiff, Nat.reduceEqDiff, ↓reduceIte, reduceCtorEq, Nat.reduceAdd, Nat.reduceMul, Nat.reduceLeDiff, Nat.reduceLT, Int.reduceLT, Int.reduceLE, Int.reduceEq, p5, p9, pH0, pH3, cellsId])) | ((first | refine awp_seq_cond _ rfl (fun hc => ?_) (fun hc => ?_) | refine awp_cond _ rfl (fun hc => ?_) (fun hc => ?_)) <;> (first | (cases hc; done) | ((try simp only [boolS] at hc); (try (exfalso; omega))))) | refine awp_seq_block ?_ | refine awp_block ?_ | refine awp_seq_skip ?_ | refine awp_seq_ret ?_ | refine awp_seq_exit ?_ | refine awp_skip ?_ | refine awp_exit ?_ | refine awp_ret ?_ | refine seqK_n ?_ | refine seqK_e ?_ | refine seqK_r ?_ | refine blkK_n ?_ | refine blkK_e ?_ | refine blkK_o rfl ?_ | refine blkK_r ?_ | refine loopK_e ?_ | refine loopK_r ?_ | refine retQ_E (by (simp (disch := omega) only [go_sem, Nat.reduceBEq, Nat.reduceBeqDiff, Nat.reduceEqDiff, ↓reduceIte, reduceCtorEq, Nat.reduceAdd, Nat.reduceMul, Nat.reduceLeDiff, Nat.reduceLT, Int.reduceLT, Int.reduceLE, Int.reduceEq, p5, p9, pH0, pH3, cellsId]); rfl) rfl ?_ | (refine hK _ ?_; clear hK K) | (refine stepG_split (fun hb => ?_) (fun hb => ?_) <;> (have hb2 := hb; try simp only [boolS] at hb2) <;> ((first | have hb3 : (_ : Bool) = _ := hb2 | have hb3 := eq_false hb2 | have hb3 := eq_true hb2); (simp (disch := omega) only [go_sem, Nat.reduceBEq, Nat.reduceBeqDiff, Nat.reduceEqDiff, ↓reduceIte, reduceCtorEq, Nat.reduceAdd, Nat.reduceMul, Nat.reduceLeDiff, Nat.reduceLT, Int.reduceLT, Int.reduceLE, Int.reduceEq, hb, hb3, p5, p9, pH0, pH3, cellsId]); clear hb hb3; (try (exfalso; omega)))) | (exfalso; omega))
          exact fin_bool rfl
      · rw [if_pos hw] at c1
        skip
        repeat' (first | refine awp_assoc ?_ | ((first | refine awp_seq_regX (N := 8) rfl fun K hK => ?_ | refine awp_seq_drawX (N := 8) rfl (by decide +kernel) fun K hK => ?_ | refine callW_pc (hf1) ?_ | refine callD_pc (hf1) ?_ | refine callW_pc (hf2) ?_ | refine callD_pc (hf2) ?_ | refine callW_pc (c1) ?_ | refine callD_pc (c1) ?_); (simp (disch := omega) only [go_sem, Nat.reduceBEq, Nat.reduceBeqDiff, Nat.reduceEqDiff, ↓reduceIte, reduceCtorEq, Nat.reduceAdd, Nat.reduceMul, Nat.reduceLeDiff, Nat.reduceLT, Int.reduceLT, Int.reduceLE, Int.reduceEq, cellsId])) | ((first | refine awp_seq_cond _ rfl (fun hc => ?_) (fun hc => ?_) | refine awp_cond _ rfl (fun hc => ?_) (fun hc => ?_)) <;> (first | (cases hc; done) | ((try simp only [boolS] at hc); (try (exfalso; omega))))) | refine awp_seq_block ?_ | refine awp_block ?_ | refine awp_seq_skip ?_ | refine awp_seq_ret ?_ | refine awp_seq_exit ?_ | refine awp_skip ?_ | refine awp_exit ?_ | refine awp_ret ?_ | refine seqK_n ?_ | refine seqK_e ?_ | refine seqK_r ?_ | refine blkK_n ?_ | refine blkK_e ?_ | refine blkK_o rfl ?_ | refine blkK_r ?_ | refine loopK_e ?_ | refine loopK_r ?_ | refine retQ_E (by (simp (disch := omega) only [go_sem, Nat.reduceBEq, Nat.reduceBeqDiff, Nat.reduceEqDiff, ↓reduceIte, reduceCtorEq, Nat.reduceAdd, Nat.reduceMul, Nat.reduceLeDiff, Nat.reduceLT, Int.reduceLT, Int.reduceLE, Int.reduceEq, cellsId]); rfl) rfl ?_ | (refine hK _ ?_; clear hK K) | (refine stepG_split (fun hb => ?_) (fun hb => ?_) <;> (have hb2 := hb; try simp only [boolS] at hb2) <;> ((first | have hb3 : (_ : Bool) = _ := hb2 | have hb3 := eq_false hb2 | have hb3 := eq_true hb2); (simp (disch := omega) only [go_sem, Nat.reduceBEq, Nat.reduceBeqDiff, Nat.reduceEqDiff, ↓reduceIte, reduceCtorEq, Nat.reduceAdd, Nat.reduceMul, Nat.reduceLeDiff, Nat.reduceLT, Int.reduceLT, Int.reduceLE, Int.reduceEq, hb, hb3, cellsId]); clear hb hb3; (try (exfalso; omega)))) | (exfalso; omega))
        (refine awp_cut (fun st => st.t 5 = .ptr 0 0 ∧ st.t 9 = .ptr 3 0 ∧ st.H 0 = some (.box 27 (cellsU u)) ∧ st.H 3 = some (.box 23 (cellsId id)) ∧ (4 ≤ st.nx)) ?_ ?_); rotate_left; (rintro st ⟨p5, p9, pH0, pH3, pp0⟩); rotate_left
        · (simp (disch := omega) only [go_sem, Nat.reduceBEq, Nat.reduceBeqDiff, Nat.reduceEqDiff, ↓reduceIte, reduceCtorEq, Nat.reduceAdd, Nat.reduceMul, Nat.reduceLeDiff, Nat.reduceLT, Int.reduceLT, Int.reduceLE, Int.reduceEq, true_and, and_true, and_self, cellsId])
          try omega
        by_cases ht : takeE u id = 0
        · obtain ⟨t1, t2, t3⟩ := take_ok ht
          obtain ⟨under, n, y, d1, d2, d3, d4, d5, d6, d7, d8, d9, d10, d11, d12⟩ := del_facts t1 t3 t2
          have zy : szB y = true := by have := sz_find id u hsu; rw [d2] at this; exact this
          have k1 := pc_Remove u hsu (by omega) (by omega) id
          rw [ht, if_pos rfl, if_pos rfl, d2] at k1
          have k2 := pc_ParentR id u hsu
          rw [d1] at k2
          have k3 := pc_Insert (wipeT id u) y (sz_wipe u hsu) zy (by omega) (by omega) (by have := dep8 d4; omega) (by have := dep8 d5; omega) under n
          rw [d7, if_neg (fun h => h rfl), Int.toNat_natCast, d8] at k3
          have k4 := pc_Same u hsu u hsu
          rw [decide_eq_true rfl] at k4
          repeat' (first | refine awp_assoc ?_ | ((first | refine awp_seq_reg fun K hK => ?_ | refine awp_seq_draw (by decide +kernel) fun K hK => ?_ | refine awp_reg' fun K hK => ?_ | refine awp_draw' (by decide +kernel) fun K hK => ?_ | refine callW_pc (ha) ?_ | refine callD_pc (ha) ?_ | refine callW_pc (k1) ?_ | refine callD_pc (k1) ?_ | refine callW_pc (k2) ?_ | refine callD_pc (k2) ?_ | refine callW_pc (k3) ?_ | refine callD_pc (k3) ?_ | refine callW_pc (k4) ?_ | refine callD_pc (k4) ?_); (simp (disch := omega) only [go_sem, Nat.reduceBEq, Nat.reduceBeqDiff, Nat.reduceEqDiff, ↓reduceIte, reduceCtorEq, Nat.reduceAdd, Nat.reduceMul, Nat.reduceLeDiff, Nat.reduceLT, Int.reduceLT, Int.reduceLE, Int.reduceEq, p5, p9, pH0, pH3, cellsId])) | ((first | refine awp_seq_cond _ rfl (fun hc => ?_) (fun hc => ?_) | refine awp_cond _ rfl (fun hc => ?_) (fun hc => ?_)) <;> (first | (cases hc; done) | ((try simp only [boolS] at hc); (try (exfalso; omega))))) | refine awp_seq_block ?_ | refine awp_block ?_ | refine awp_seq_skip ?_ | refine awp_seq_ret ?_ | refine awp_seq_exit ?_ | refine awp_skip ?_ | refine awp_exit ?_ | refine awp_ret ?_ | refine seqK_n ?_ | refine seqK_e ?_ | refine seqK_r ?_ | refine blkK_n ?_ | refine blkK_e ?_ | refine blkK_o rfl ?_ | refine blkK_r ?_ | refine loopK_e ?_ | refine loopK_r ?_ | refine retQ_E (by (simp (disch := omega) only [go_sem, Nat.reduceBEq, Nat.reduceBeqDiff, Nat.reduceEqDiff, ↓reduceIte, reduceCtorEq, Nat.reduceAdd, Nat.reduceMul, Nat.reduceLeDiff, Nat.reduceLT, Int.reduceLT, Int.reduceLE, Int.reduceEq, p5, p9, pH0, pH3, cellsId]); rfl) rfl ?_ | (refine hK _ ?_; clear hK K) | (refine stepG_split (fun hb => ?_) (fun hb => ?_) <;> (have hb2 := hb; try simp only [boolS] at hb2) <;> ((first | have hb3 : (_ : Bool) = _ := hb2 | have hb3 := eq_false hb2 | have hb3 := eq_true hb2); (simp (disch := omega) only [go_sem, Nat.reduceBEq, Nat.reduceBeqDiff, Nat.reduceEqDiff, ↓reduceIte, reduceCtorEq, Nat.reduceAdd, Nat.reduceMul, Nat.reduceLeDiff, Nat.reduceLT, Int.reduceLT, Int.reduceLE, Int.reduceEq, hb, hb3, p5, p9, pH0, pH3, cellsId]); clear hb hb3; (try (exfalso; omega)))) | (exfalso; omega))
          exact fin_bool rfl
        · have k1 := pc_Remove u hsu (by omega) (by omega) id
          rw [if_neg ht, if_neg ht] at k1
          repeat' (first | refine awp_assoc ?_ | ((first | refine awp_seq_reg fun K hK => ?_ | refine awp_seq_draw (by decide +kernel) fun K hK => ?_ | refine awp_reg' fun K hK => ?_ | refine awp_draw' (by decide +kernel) fun K hK => ?_ | refine callW_pc (ha) ?_ | refine callD_pc (ha) ?_ | refine callW_pc (k1) ?_ | refine callD_pc (k1) ?_); (simp (disch := omega) only [go_sem, Nat.reduceBEq, Nat.reduceBeqDiff, Nat.reduceEqDiff, ↓reduceIte, reduceCtorEq, Nat.reduceAdd, Nat.reduceMul, Nat.reduceLeDiff, Nat.reduceLT, Int.reduceLT, Int.reduceLE, Int.reduceEq, p5, p9, pH0, pH3, cellsId])) | ((first | refine awp_seq_cond _ rfl (fun hc => ?_) (fun hc => ?_) | refine awp_cond _ rfl (fun hc => ?_) (fun hc => ?_)) <;> (first | (cases hc; done) | ((try simp only [boolS] at hc); (try (exfalso; omega))))) | refine awp_seq_block ?_ | refine awp_block ?_ | refine awp_seq_skip ?_ | refine awp_seq_ret ?_ | refine awp_seq_exit ?_ | refine awp_skip ?_ | refine awp_exit ?_ | refine awp_ret ?_ | refine seqK_n ?_ | refine seqK_e ?_ | refine seqK_r ?_ | refine blkK_n ?_ | refine blkK_e ?_ | refine blkK_o rfl ?_ | refine blkK_r ?_ | refine loopK_e ?_ | refine loopK_r ?_ | refine retQ_E (by (simp (disch := omega) only [go_sem, Nat.reduceBEq, Nat.reduceBeqDiff, Nat.reduceEqDiff, ↓reduceIte, reduceCtorEq, Nat.reduceAdd, Nat.reduceMul, Nat.reduceLeDiff, Nat.reduceLT, Int.reduceLT, Int.reduceLE, Int.reduceEq, p5, p9, pH0, pH3, cellsId]); rfl) rfl ?_ | (refine hK _ ?_; clear hK K) | (refine stepG_split (fun hb => ?_) (fun hb => ?_) <;> (have hb2 := hb; try simp only [boolS] at hb2) <;> ((first | have hb3 : (_ : Bool) = _ := hb2 | have hb3 := eq_false hb2 | have hb3 := eq_true hb2); (simp (disch := omega) only [go_sem, Nat.reduceBEq, Nat.reduceBeqDiff, Nat.reduceEqDiff, ↓reduceIte, reduceCtorEq, Nat.reduceAdd, Nat.reduceMul, Nat.reduceLeDiff, Nat.reduceLT, Int.reduceLT, Int.reduceLE, Int.reduceEq, hb, hb3, p5, p9, pH0, pH3, cellsId]); clear hb hb3; (try (exfalso; omega)))) | (exfalso; omega))
          exact fin_bool rfl
    · rw [Bool.not_eq_true] at h2
      rw [h1] at hf1
      rw [h2] at hf2
      skip
      repeat' (first | refine awp_assoc ?_ | ((first | refine awp_seq_reg fun K hK => ?_ | refine awp_seq_draw (by decide +kernel) fun K hK => ?_ | refine awp_reg' fun K hK => ?_ | refine awp_draw' (by decide +kernel) fun K hK => ?_ | refine callW_pc (ha) ?_ | refine callD_pc (ha) ?_ | refine callW_pc (hf1) ?_ | refine callD_pc (hf1) ?_ | refine callW_pc (hf2) ?_ | refine callD_pc (hf2) ?_); (simp (disch := omega) only [go_sem, Nat.reduceBEq, Nat.reduceBeqDiff, Nat.reduceEqDiff, ↓reduceIte, reduceCtorEq, Nat.reduceAdd, Nat.reduceMul, Nat.reduceLeDiff, Nat.reduceLT, Int.reduceLT, Int.reduceLE, Int.reduceEq, cellsId])) | ((first | refine awp_seq_cond _ rfl (fun hc => ?_) (fun hc => ?_) | refine awp_cond _ rfl (fun hc => ?_) (fun hc => ?_)) <;> (first | (cases hc; done) | ((try simp only [boolS] at hc); (try (exfalso; omega))))) | refine awp_seq_block ?_ | refine awp_block ?_ | refine awp_seq_skip ?_ | refine awp_seq_ret ?_ | refine awp_seq_exit ?_ | refine awp_skip ?_ | refine awp_exit ?_ | refine awp_ret ?_ | refine seqK_n ?_ | refine seqK_e ?_ | refine seqK_r ?_ | refine blkK_n ?_ | refine blkK_e ?_ | refine blkK_o rfl ?_ | refine blkK_r ?_ | refine loopK_e ?_ | refine loopK_r ?_ | refine retQ_E (by (simp (disch := omega) only [go_sem, Nat.reduceBEq, Nat.reduceBeqDiff, Nat.reduceEqDiff, ↓reduceIte, reduceCtorEq, Nat.reduceAdd, Nat.reduceMul, Nat.reduceLeDiff, Nat.reduceLT, Int.reduceLT, Int.reduceLE, Int.reduceEq, cellsId]); rfl) rfl ?_ | (refine hK _ ?_; clear hK K) | (refine stepG_split (fun hb => ?_) (fun hb => ?_) <;> (have hb2 := hb; try simp only [boolS] at hb2) <;> ((first | have hb3 : (_ : Bool) = _ := hb2 | have hb3 := eq_false hb2 | have hb3 := eq_true hb2); (simp (disch := omega) only [go_sem, Nat.reduceBEq, Nat.reduceBeqDiff, Nat.reduceEqDiff, ↓reduceIte, reduceCtorEq, Nat.reduceAdd, Nat.reduceMul, Nat.reduceLeDiff, Nat.reduceLT, Int.reduceLT, Int.reduceLE, Int.reduceEq, hb, hb3, cellsId]); clear hb hb3; (try (exfalso; omega)))) | (exfalso; omega))
      exact fin_bool rfl
  · rw [Bool.not_eq_true] at h1
    rw [h1] at hf1
    skip
    repeat' (first | refine awp_assoc ?_ | ((first | refine awp_seq_reg fun K hK => ?_ | refine awp_seq_draw (by decide +kernel) fun K hK => ?_ | refine awp_reg' fun K hK => ?_ | refine awp_draw' (by decide +kernel) fun K hK => ?_ | refine callW_pc (ha) ?_ | refine callD_pc (ha) ?_ | refine callW_pc (hf1) ?_ | refine callD_pc (hf1) ?_); (simp (disch := omega) only [go_sem, Nat.reduceBEq, Nat.reduceBeqDiff, Nat.reduceEqDiff, ↓reduceIte, reduceCtorEq, Nat.reduceAdd, Nat.reduceMul, Nat.reduceLeDiff, Nat.reduceLT, Int.reduceLT, Int.reduceLE, Int.reduceEq, cellsId])) | ((first | refine awp_seq_cond _ rfl (fun hc => ?_) (fun hc => ?_) | refine awp_cond _ rfl (fun hc => ?_) (fun hc => ?_)) <;> (first | (cases hc; done) | ((try simp only [boolS] at hc); (try (exfalso; omega))))) | refine awp_seq_block ?_ | refine awp_block ?_ | refine awp_seq_skip ?_ | refine awp_seq_ret ?_ | refine awp_seq_exit ?_ | refine awp_skip ?_ | refine awp_exit ?_ | refine awp_ret ?_ | refine seqK_n ?_ | refine seqK_e ?_ | refine seqK_r ?_ | refine blkK_n ?_ | refine blkK_e ?_ | refine blkK_o rfl ?_ | refine blkK_r ?_ | refine loopK_e ?_ | refine loopK_r ?_ | refine retQ_E (by (simp (disch := omega) only [go_sem, Nat.reduceBEq, Nat.reduceBeqDiff, Nat.reduceEqDiff, ↓reduceIte, reduceCtorEq, Nat.reduceAdd, Nat.reduceMul, Nat.reduceLeDiff, Nat.reduceLT, Int.reduceLT, Int.reduceLE, Int.reduceEq, cellsId]); rfl) rfl ?_ | (refine hK _ ?_; clear hK K) | (refine stepG_split (fun hb => ?_) (fun hb => ?_) <;> (have hb2 := hb; try simp only [boolS] at hb2) <;> ((first | have hb3 : (_ : Bool) = _ := hb2 | have hb3 := eq_false hb2 | have hb3 := eq_true hb2); (simp (disch := omega) only [go_sem, Nat.reduceBEq, Nat.reduceBeqDiff, Nat.reduceEqDiff, ↓reduceIte, reduceCtorEq, Nat.reduceAdd, Nat.reduceMul, Nat.reduceLeDiff, Nat.reduceLT, Int.reduceLT, Int.reduceLE, Int.reduceEq, hb, hb3, cellsId]); clear hb hb3; (try (exfalso; omega)))) | (exfalso; omega))
    exact fin_bool rfl
end Go.Proofs.YtkhjpcmpljpmjaaDoor
