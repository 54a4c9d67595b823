/-
  The walks of the reference's Wrong, Insert, Take. No condition but lengths.
-/
import Derived.Test.YtkhjpcmpljpmjaaGreatDoorRefB
set_option maxRecDepth 100000
set_option maxHeartbeats 8000000
set_option linter.unusedSimpArgs false
set_option linter.unusedVariables false
namespace Go.Proofs.YtkhjpcmpljpmjaaGreatDoor
open Abs Facts Tr
attribute [local irreducible] awp

namespace Tr
/-- The number of the first error of an insertion. -/
def wrongT (u : T) (parent : Idv) (i : Int) (x : T) : Int :=
  if standsT u = false ∨ standsT x = false ∨ x.kind = 0 then 1 else
  if (findR parent u).2 = false then 4 else
  if nestsB (findR parent u).1.kind x.kind = false then 9 else
  if i < 0 ∨ ((findR parent u).1.kids.length : Int) < i then 3 else
  if takenT (findR parent u).1.kids x.kind x.label = true then 10 else
  if 64 ≤ (findR parent u).1.kids.length ∨ 8 < (ancR parent u).length + 1 + depT x ∨ 1024 < cntT u + cntT x then 6 else
  if ((idsT x).any fun i => (findR i u).2) = true then 5 else 0
theorem taken_any (l : List T) (k : Int) (n : ByteArray) (b : Idv) : takenR l k n b true = takenT l k n := by
  unfold takenR takenT; simp
theorem find_node {id : Idv} {u : T} (h : (findR id u).2 = true) : (findR id u).1 ∈ nodesT u := by
  have hm := findR_way'.1 h
  unfold findR
  rw [last_get _ hm]
  exact way_mem id u _ (List.getElem_mem _)
theorem node_find {id : Idv} {u q : T} (hn : (idsT u).Nodup) (hq : q ∈ nodesT u) (hid : q.id = id) : findR id u = (q, true) := by
  have key : ∀ u : T, (idsT u).Nodup → q ∈ nodesT u → findR id u = (q, true) := by
    refine ind1 fun u ih hn hq => ?_
    rw [nodesT_eq, List.mem_cons] at hq
    rcases hq with rfl | hq
    · exact findR_self hid
    · obtain ⟨k, hk, hqk⟩ := List.mem_flatMap.1 hq
      obtain ⟨i, hi, rfl⟩ := List.getElem_of_mem hk
      obtain ⟨g1, g2, g3⟩ := nodup_kids hn
      have hin : id ∈ idsT u.kids[i] := List.mem_map.2 ⟨q, hqk, hid⟩
      have h2 := ih _ hk (g2 _ hk) hqk
      have hw : wayT id u.kids[i] ≠ [] := way_ne.2 hin
      rw [findR_cons (wayT_kid (fun e => g1 _ hk (e ▸ hin)) hi (fun j hj h => (way_nil id _).2 (g3 i j hi h (by omega) id hin)) hw) hw, h2]
  exact key u hn hq
/-- The number of the first error of a removal. -/
def takeE (u : T) (id : Idv) : Int := if standsT u = false then 1 else if (findR id u).2 = false then 4 else if u.id = id then 9 else 0
/-- What the absence of an error says. -/
theorem wrong_ok {u x : T} {parent : Idv} {i : Int} (h : wrongT u parent i x = 0) : (standsT u = true ∧ standsT x = true ∧ x.kind ≠ 0 ∧ (findR parent u).2 = true ∧ nestsB (findR parent u).1.kind x.kind = true ∧ takenT (findR parent u).1.kids x.kind x.label = false ∧ (findR parent u).1.kids.length < 64 ∧ (ancR parent u).length + 1 + depT x ≤ 8 ∧ cntT u + cntT x ≤ 1024 ∧ ((idsT x).any fun i => (findR i u).2) = false) ∧
    parent ∈ idsT u ∧ ∃ n : Nat, i = n ∧ ∀ q ∈ nodesT u, q.id = parent → n ≤ q.kids.length := by
  unfold wrongT at h
  split at h
  · cases h
  rename_i h1
  split at h
  · cases h
  rename_i h2
  split at h
  · cases h
  rename_i h3
  split at h
  · cases h
  rename_i h4
  split at h
  · cases h
  rename_i h5
  split at h
  · cases h
  rename_i h6
  split at h
  · cases h
  rename_i h7
  simp only [not_or, Bool.not_eq_false, Bool.not_eq_true] at h1 h2 h3 h5 h7
  refine ⟨⟨h1.1, h1.2.1, h1.2.2, h2, h3, h5, by omega, by omega, by omega, h7⟩, ?_, i.toNat, by omega, fun q hq hid => ?_⟩
  · rw [find_in, decide_eq_true_eq] at h2; exact h2
  · rw [node_find ((stands_iff u).1 h1.1).2.2.2.1 hq hid] at h4
    simp only at h4
    omega
end Tr
theorem pc_Wrong (u x : T) (hu : szB u = true) (hx : szB x = true) (cu : cntT u ≤ 1000000) (cx : cntT x ≤ 1000000) (du : depT u ≤ 1000000) (dx : depT x ≤ 1000000) (parent : Idv) (i : Int) (hi : -9223372036854775808 ≤ i ∧ i ≤ 9223372036854775807) :
    PC Tryz.prog 15 [encU u, encId parent, .int .i64 i, encU x] (.int .i64 (wrongT u parent i x)) := by
  have c1 := pc_StandsR u hu (by omega) (by omega)
  have c2 := pc_StandsR x hx (by omega) (by omega)
  have c3 := pc_FindR parent u hu
  have hf := sz_find parent u hu
  have hk := (sz_kids hf).1
  have c4 := pc_Nests (findR parent u).1.kind x.kind
  have c5 := pc_takenR (findR parent u).1.kids hk x.kind x.label x.id true
  rw [taken_any] at c5
  have c6 := pc_deepR u hu (by omega) parent
  have c7 := pc_DepthR x hx (by omega)
  have c8 := pc_CountR u hu (by omega)
  have c9 := pc_CountR x hx (by omega)
  have c10 := pc_shared u x hu hx cx
  have ha := ancR_len parent u
  unfold wrongT
  refine PC_intro 1 (by simp only [pureD.pureL, pure_encU, pureD, Bool.and_self]; rfl) rfl (AC_intro [8000000, 3000057, 3000061, 3000062, 5000063, 3000065, 5000066, 3000071, 5000072, 3000073, 5000074] Tryz.func15 rfl (by decide +kernel) mixed (by decide +kernel) (by simp [Tryz.ntmps15]) ?_)
  show awp _ _ (Code.seq _ _) _ _
  skip
  repeat' (first | refine awp_assoc ?_ | ((first | refine awp_seq_regX (N := 10) rfl fun K hK => ?_ | refine awp_seq_drawX (N := 10) rfl (by decide +kernel) fun K hK => ?_ | refine callW_pc (c1) ?_ | refine callD_pc (c1) ?_ | refine callW_pc (c2) ?_ | refine callD_pc (c2) ?_ | refine callW_pc (c3) ?_ | refine callD_pc (c3) ?_ | refine callW_pc (c4) ?_ | refine callD_pc (c4) ?_); (simp (disch := omega) only [go_sem, Nat.reduceBEq, Nat.reduceBeqDiff, Nat.reduceEqDiff, ↓reduceIte, reduceCtorEq, Nat.reduceAdd, Nat.reduceMul, Nat.reduceLeDiff, Nat.reduceLT, Int.reduceLT, Int.reduceLE, Int.reduceEq, cellsId, encUs])) | ((first | refine awp_seq_cond _ rfl (fun hc => ?_) (fun hc => ?_) | refine awp_cond _ rfl (fun hc => ?_) (fun hc => ?_)) <;> (first | (cases hc; done) | ((try simp only [boolS] at hc); (try (exfalso; omega))))) | refine awp_seq_block ?_ | refine awp_block ?_ | refine awp_seq_skip ?_ | refine awp_seq_ret ?_ | refine awp_seq_exit ?_ | refine awp_skip ?_ | refine awp_exit ?_ | refine awp_ret ?_ | refine seqK_n ?_ | refine seqK_e ?_ | refine seqK_r ?_ | refine blkK_n ?_ | refine blkK_e ?_ | refine blkK_o rfl ?_ | refine blkK_r ?_ | refine loopK_e ?_ | refine loopK_r ?_ | refine retQ_E (by (simp (disch := omega) only [go_sem, Nat.reduceBEq, Nat.reduceBeqDiff, Nat.reduceEqDiff, ↓reduceIte, reduceCtorEq, Nat.reduceAdd, Nat.reduceMul, Nat.reduceLeDiff, Nat.reduceLT, Int.reduceLT, Int.reduceLE, Int.reduceEq, cellsId, encUs]); rfl) rfl ?_ | (refine hK _ ?_; clear hK K) | (refine stepG_split (fun hb => ?_) (fun hb => ?_) <;> (have hb2 := hb; try simp only [boolS] at hb2) <;> ((first | have hb3 : (_ : Bool) = _ := hb2 | have hb3 := eq_false hb2 | have hb3 := eq_true hb2); (simp (disch := omega) only [go_sem, Nat.reduceBEq, Nat.reduceBeqDiff, Nat.reduceEqDiff, ↓reduceIte, reduceCtorEq, Nat.reduceAdd, Nat.reduceMul, Nat.reduceLeDiff, Nat.reduceLT, Int.reduceLT, Int.reduceLE, Int.reduceEq, hb, hb3, cellsId, encUs]); clear hb hb3; (try (exfalso; omega)))) | (exfalso; omega))
  all_goals first | (refine fin_int ?_; clear c1 c2 c3 c4 c5 c6 c7 c8 c9 c10; (repeat' split) <;> first | rfl | (exfalso; simp_all <;> omega)) | skip
  (refine awp_cut (fun st => st.t 2 = .int .i64 i ∧ st.t 4 = .ptr 0 0 ∧ st.t 5 = .ptr 1 0 ∧ st.t 7 = .ptr 2 0 ∧ st.t 9 = .ptr 3 0 ∧ st.H 0 = some (.box 27 (cellsU u)) ∧ st.H 1 = some (.box 23 (cellsId parent)) ∧ st.H 2 = some (.box 27 (cellsU x)) ∧ st.H 3 = some (.box 27 (cellsU (findR parent u).1)) ∧ st.nx = 4) ?_ ?_); rotate_left; (rintro st ⟨p2, p4, p5, p7, p9, pH0, pH1, pH2, pH3, pnx⟩); rotate_left
  · (simp (disch := omega) only [go_sem, Nat.reduceBEq, Nat.reduceBeqDiff, Nat.reduceEqDiff, ↓reduceIte, reduceCtorEq, Nat.reduceAdd, Nat.reduceMul, Nat.reduceLeDiff, Nat.reduceLT, Int.reduceLT, Int.reduceLE, Int.reduceEq, true_and, and_true, and_self, cellsId])
  repeat' (first | refine awp_assoc ?_ | ((first | refine awp_seq_reg fun K hK => ?_ | refine awp_seq_draw (by decide +kernel) fun K hK => ?_ | refine awp_reg' fun K hK => ?_ | refine awp_draw' (by decide +kernel) fun K hK => ?_ | refine callW_pc (c5) ?_ | refine callD_pc (c5) ?_ | refine callW_pc (c6) ?_ | refine callD_pc (c6) ?_ | refine callW_pc (c7) ?_ | refine callD_pc (c7) ?_ | refine callW_pc (c8) ?_ | refine callD_pc (c8) ?_ | refine callW_pc (c9) ?_ | refine callD_pc (c9) ?_ | refine callW_pc (c10) ?_ | refine callD_pc (c10) ?_); (simp (disch := omega) only [go_sem, Nat.reduceBEq, Nat.reduceBeqDiff, Nat.reduceEqDiff, ↓reduceIte, reduceCtorEq, Nat.reduceAdd, Nat.reduceMul, Nat.reduceLeDiff, Nat.reduceLT, Int.reduceLT, Int.reduceLE, Int.reduceEq, p2, p4, p5, p7, p9, pH0, pH1, pH2, pH3, pnx, cellsId, encUs])) | ((first | refine awp_seq_cond _ rfl (fun hc => ?_) (fun hc => ?_) | refine awp_cond _ rfl (fun hc => ?_) (fun hc => ?_)) <;> (first | (cases hc; done) | ((try simp only [boolS] at hc); (try (exfalso; omega))))) | refine awp_seq_block ?_ | refine awp_block ?_ | refine awp_seq_skip ?_ | refine awp_seq_ret ?_ | refine awp_seq_exit ?_ | refine awp_skip ?_ | refine awp_exit ?_ | refine awp_ret ?_ | refine seqK_n ?_ | refine seqK_e ?_ | refine seqK_r ?_ | refine blkK_n ?_ | refine blkK_e ?_ | refine blkK_o rfl ?_ | refine blkK_r ?_ | refine loopK_e ?_ | refine loopK_r ?_ | refine retQ_E (by (simp (disch := omega) only [go_sem, Nat.reduceBEq, Nat.reduceBeqDiff, Nat.reduceEqDiff, ↓reduceIte, reduceCtorEq, Nat.reduceAdd, Nat.reduceMul, Nat.reduceLeDiff, Nat.reduceLT, Int.reduceLT, Int.reduceLE, Int.reduceEq, p2, p4, p5, p7, p9, pH0, pH1, pH2, pH3, pnx, cellsId, encUs]); rfl) rfl ?_ | (refine hK _ ?_; clear hK K) | (refine stepG_split (fun hb => ?_) (fun hb => ?_) <;> (have hb2 := hb; try simp only [boolS] at hb2) <;> ((first | have hb3 : (_ : Bool) = _ := hb2 | have hb3 := eq_false hb2 | have hb3 := eq_true hb2); (simp (disch := omega) only [go_sem, Nat.reduceBEq, Nat.reduceBeqDiff, Nat.reduceEqDiff, ↓reduceIte, reduceCtorEq, Nat.reduceAdd, Nat.reduceMul, Nat.reduceLeDiff, Nat.reduceLT, Int.reduceLT, Int.reduceLE, Int.reduceEq, hb, hb3, p2, p4, p5, p7, p9, pH0, pH1, pH2, pH3, pnx, cellsId, encUs]); clear hb hb3; (try (exfalso; omega)))) | (exfalso; omega))
  all_goals (refine fin_int ?_; clear c1 c2 c3 c4 c5 c6 c7 c8 c9 c10; (repeat' split) <;> first | rfl | (exfalso; simp_all <;> omega))
theorem pc_InsertR (u x : T) (hu : szB u = true) (hx : szB x = true) (cu : cntT u ≤ 1000000) (cx : cntT x ≤ 1000000) (du : depT u ≤ 1000000) (dx : depT x ≤ 1000000) (parent : Idv) (i : Int) (hi : -9223372036854775808 ≤ i ∧ i ≤ 9223372036854775807) :
    PC Tryz.prog 12 [encU u, encId parent, .int .i64 i, encU x] (.tup [encU (if wrongT u parent i x ≠ 0 then T.zero else editT parent (insK i.toNat x) u), .int .i64 (wrongT u parent i x)]) := by
  have c1 := pc_Wrong u x hu hx cu cx du dx parent i hi
  refine PC_intro 3 (by simp only [pureD.pureL, pure_encU, pureD, Bool.and_self]; rfl) (by simp only [pureD.pureL, pure_encU, pureD, Bool.and_self]) (AC_intro [] Tryz.func12 rfl (by decide +kernel) mixed (by decide +kernel) (by simp [Tryz.ntmps12]) ?_)
  show awp _ _ (Code.seq _ _) _ _
  rw [show Tryz.f12.results.toList = [.cell 8 27, .tmp 9] from rfl]
  skip
  by_cases hw : wrongT u parent i x = 0
  · obtain ⟨hr, hm, n, rfl, hn⟩ := wrong_ok hw
    have c2 := pc_Grown parent n x u hu hn
    rw [hw] at c1 ⊢
    rw [if_neg (fun h => h rfl), Int.toNat_natCast]
    repeat' (first | refine awp_assoc ?_ | ((first | refine awp_seq_reg fun K hK => ?_ | refine awp_seq_draw (by decide +kernel) fun K hK => ?_ | refine awp_reg' fun K hK => ?_ | refine awp_draw' (by decide +kernel) fun K hK => ?_ | refine callW_pc (c1) ?_ | refine callD_pc (c1) ?_ | refine callW_pc (c2) ?_ | refine callD_pc (c2) ?_); (simp (disch := omega) only [go_sem, Nat.reduceBEq, Nat.reduceBeqDiff, Nat.reduceEqDiff, ↓reduceIte, reduceCtorEq, Nat.reduceAdd, Nat.reduceMul, Nat.reduceLeDiff, Nat.reduceLT, Int.reduceLT, Int.reduceLE, Int.reduceEq, cellsId])) | ((first | refine awp_seq_cond _ rfl (fun hc => ?_) (fun hc => ?_) | refine awp_cond _ rfl (fun hc => ?_) (fun hc => ?_)) <;> (first | (cases hc; done) | ((try simp only [boolS] at hc); (try (exfalso; omega))))) | refine awp_seq_block ?_ | refine awp_block ?_ | refine awp_seq_skip ?_ | refine awp_seq_ret ?_ | refine awp_seq_exit ?_ | refine awp_skip ?_ | refine awp_exit ?_ | refine awp_ret ?_ | refine seqK_n ?_ | refine seqK_e ?_ | refine seqK_r ?_ | refine blkK_n ?_ | refine blkK_e ?_ | refine blkK_o rfl ?_ | refine blkK_r ?_ | refine loopK_e ?_ | refine loopK_r ?_ | refine retQ_E (by (simp (disch := omega) only [go_sem, Nat.reduceBEq, Nat.reduceBeqDiff, Nat.reduceEqDiff, ↓reduceIte, reduceCtorEq, Nat.reduceAdd, Nat.reduceMul, Nat.reduceLeDiff, Nat.reduceLT, Int.reduceLT, Int.reduceLE, Int.reduceEq, cellsId]); rfl) rfl ?_ | (refine hK _ ?_; clear hK K) | (refine stepG_split (fun hb => ?_) (fun hb => ?_) <;> (have hb2 := hb; try simp only [boolS] at hb2) <;> ((first | have hb3 : (_ : Bool) = _ := hb2 | have hb3 := eq_false hb2 | have hb3 := eq_true hb2); (simp (disch := omega) only [go_sem, Nat.reduceBEq, Nat.reduceBeqDiff, Nat.reduceEqDiff, ↓reduceIte, reduceCtorEq, Nat.reduceAdd, Nat.reduceMul, Nat.reduceLeDiff, Nat.reduceLT, Int.reduceLT, Int.reduceLE, Int.reduceEq, hb, hb3, cellsId]); clear hb hb3; (try (exfalso; omega)))) | (exfalso; omega))
    refine fin_pure ?_ (Le.refl _)
    simp only [pureD, pureD.pureL, pure_cellsU, pure_encU, Bool.and_self]
  · rw [if_pos hw]
    repeat' (first | refine awp_assoc ?_ | ((first | refine awp_seq_reg fun K hK => ?_ | refine awp_seq_draw (by decide +kernel) fun K hK => ?_ | refine awp_reg' fun K hK => ?_ | refine awp_draw' (by decide +kernel) fun K hK => ?_ | refine callW_pc (c1) ?_ | refine callD_pc (c1) ?_); (simp (disch := omega) only [go_sem, Nat.reduceBEq, Nat.reduceBeqDiff, Nat.reduceEqDiff, ↓reduceIte, reduceCtorEq, Nat.reduceAdd, Nat.reduceMul, Nat.reduceLeDiff, Nat.reduceLT, Int.reduceLT, Int.reduceLE, Int.reduceEq, cellsId])) | ((first | refine awp_seq_cond _ rfl (fun hc => ?_) (fun hc => ?_) | refine awp_cond _ rfl (fun hc => ?_) (fun hc => ?_)) <;> (first | (cases hc; done) | ((try simp only [boolS] at hc); (try (exfalso; omega))))) | refine awp_seq_block ?_ | refine awp_block ?_ | refine awp_seq_skip ?_ | refine awp_seq_ret ?_ | refine awp_seq_exit ?_ | refine awp_skip ?_ | refine awp_exit ?_ | refine awp_ret ?_ | refine seqK_n ?_ | refine seqK_e ?_ | refine seqK_r ?_ | refine blkK_n ?_ | refine blkK_e ?_ | refine blkK_o rfl ?_ | refine blkK_r ?_ | refine loopK_e ?_ | refine loopK_r ?_ | refine retQ_E (by (simp (disch := omega) only [go_sem, Nat.reduceBEq, Nat.reduceBeqDiff, Nat.reduceEqDiff, ↓reduceIte, reduceCtorEq, Nat.reduceAdd, Nat.reduceMul, Nat.reduceLeDiff, Nat.reduceLT, Int.reduceLT, Int.reduceLE, Int.reduceEq, cellsId]); rfl) rfl ?_ | (refine hK _ ?_; clear hK K) | (refine stepG_split (fun hb => ?_) (fun hb => ?_) <;> (have hb2 := hb; try simp only [boolS] at hb2) <;> ((first | have hb3 : (_ : Bool) = _ := hb2 | have hb3 := eq_false hb2 | have hb3 := eq_true hb2); (simp (disch := omega) only [go_sem, Nat.reduceBEq, Nat.reduceBeqDiff, Nat.reduceEqDiff, ↓reduceIte, reduceCtorEq, Nat.reduceAdd, Nat.reduceMul, Nat.reduceLeDiff, Nat.reduceLT, Int.reduceLT, Int.reduceLE, Int.reduceEq, hb, hb3, cellsId]); clear hb hb3; (try (exfalso; omega)))) | (exfalso; omega))
    exact fin_pure rfl (Le.tup ⟨le_zeroU, Le.refl _, trivial⟩)
theorem pc_Take (u : T) (hu : szB u = true) (cu : cntT u ≤ 1000000) (du : depT u ≤ 1000000) (id : Idv) :
    PC Tryz.prog 17 [encU u, encId id] (.tup [encU (if takeE u id = 0 then wipeT id u else T.zero), encU (if takeE u id = 0 then (findR id u).1 else T.zero), .int .i64 (takeE u id)]) := by
  have c1 := pc_StandsR u hu (by omega) (by omega)
  have c3 := pc_FindR id u hu
  have c4 := pc_Without id u hu
  have hz : Le (.agg [.int .i64 0, .int .i64 0, .int .i64 0, .int .i64 0, .str ByteArray.empty, .nil, .nil, .nil]) (encU T.zero) := le_zeroU
  refine PC_intro 3 (by simp only [pureD.pureL, pure_encU, pureD, Bool.and_self]; rfl) (by simp only [pureD.pureL, pure_encU, pureD, Bool.and_self]) (AC_intro [3000030, 3000031, 5000032, 600033, 900004, 600004, 900002, 600005, 900003] Tryz.func17 rfl (by decide +kernel) mixed (by decide +kernel) (by simp [Tryz.ntmps17]) ?_)
  show awp _ _ (Code.seq _ _) _ _
  rw [show Tryz.f17.results.toList = [.cell 4 27, .cell 5 27, .tmp 6] from rfl]
  skip
  by_cases h1 : standsT u = true
  · by_cases h2 : (findR id u).2 = true
    · by_cases h3 : u.id = id
      · have e : takeE u id = 9 := by unfold takeE; rw [if_neg (by simp [h1]), if_neg (by simp [h2]), if_pos h3]
        rw [e, if_neg (by decide), if_neg (by decide)]
        have h3d : decide (u.id = id) = true := decide_eq_true h3
        rw [h1] at c1
        rw [h2] at c3
        repeat' (first | refine awp_assoc ?_ | ((first | refine awp_seq_reg fun K hK => ?_ | refine awp_seq_draw (by decide +kernel) fun K hK => ?_ | refine awp_reg' fun K hK => ?_ | refine awp_draw' (by decide +kernel) fun K hK => ?_ | refine callW_pc (c1) ?_ | refine callD_pc (c1) ?_ | refine callW_pc (c3) ?_ | refine callD_pc (c3) ?_ | refine callW_pc (c4) ?_ | refine callD_pc (c4) ?_); (simp (disch := omega) only [go_sem, Nat.reduceBEq, Nat.reduceBeqDiff, Nat.reduceEqDiff, ↓reduceIte, reduceCtorEq, Nat.reduceAdd, Nat.reduceMul, Nat.reduceLeDiff, Nat.reduceLT, Int.reduceLT, Int.reduceLE, Int.reduceEq, cellsId, h3d])) | ((first | refine awp_seq_cond _ rfl (fun hc => ?_) (fun hc => ?_) | refine awp_cond _ rfl (fun hc => ?_) (fun hc => ?_)) <;> (first | (cases hc; done) | ((try simp only [boolS] at hc); (try (exfalso; omega))))) | refine awp_seq_block ?_ | refine awp_block ?_ | refine awp_seq_skip ?_ | refine awp_seq_ret ?_ | refine awp_seq_exit ?_ | refine awp_skip ?_ | refine awp_exit ?_ | refine awp_ret ?_ | refine seqK_n ?_ | refine seqK_e ?_ | refine seqK_r ?_ | refine blkK_n ?_ | refine blkK_e ?_ | refine blkK_o rfl ?_ | refine blkK_r ?_ | refine loopK_e ?_ | refine loopK_r ?_ | refine retQ_E (by (simp (disch := omega) only [go_sem, Nat.reduceBEq, Nat.reduceBeqDiff, Nat.reduceEqDiff, ↓reduceIte, reduceCtorEq, Nat.reduceAdd, Nat.reduceMul, Nat.reduceLeDiff, Nat.reduceLT, Int.reduceLT, Int.reduceLE, Int.reduceEq, cellsId, h3d]); rfl) rfl ?_ | (refine hK _ ?_; clear hK K) | (refine stepG_split (fun hb => ?_) (fun hb => ?_) <;> (have hb2 := hb; try simp only [boolS] at hb2) <;> ((first | have hb3 : (_ : Bool) = _ := hb2 | have hb3 := eq_false hb2 | have hb3 := eq_true hb2); (simp (disch := omega) only [go_sem, Nat.reduceBEq, Nat.reduceBeqDiff, Nat.reduceEqDiff, ↓reduceIte, reduceCtorEq, Nat.reduceAdd, Nat.reduceMul, Nat.reduceLeDiff, Nat.reduceLT, Int.reduceLT, Int.reduceLE, Int.reduceEq, hb, hb3, cellsId, h3d]); clear hb hb3; (try (exfalso; omega)))) | (exfalso; omega))
        exact fin_pure rfl (Le.tup ⟨le_zeroU, le_zeroU, Le.refl _, trivial⟩)
      · have e : takeE u id = 0 := by unfold takeE; rw [if_neg (by simp [h1]), if_neg (by simp [h2]), if_neg h3]
        rw [e, if_pos rfl, if_pos rfl]
        have h3d : decide (u.id = id) = false := decide_eq_false h3
        rw [h1] at c1
        rw [h2] at c3
        repeat' (first | refine awp_assoc ?_ | ((first | refine awp_seq_reg fun K hK => ?_ | refine awp_seq_draw (by decide +kernel) fun K hK => ?_ | refine awp_reg' fun K hK => ?_ | refine awp_draw' (by decide +kernel) fun K hK => ?_ | refine callW_pc (c1) ?_ | refine callD_pc (c1) ?_ | refine callW_pc (c3) ?_ | refine callD_pc (c3) ?_ | refine callW_pc (c4) ?_ | refine callD_pc (c4) ?_); (simp (disch := omega) only [go_sem, Nat.reduceBEq, Nat.reduceBeqDiff, Nat.reduceEqDiff, ↓reduceIte, reduceCtorEq, Nat.reduceAdd, Nat.reduceMul, Nat.reduceLeDiff, Nat.reduceLT, Int.reduceLT, Int.reduceLE, Int.reduceEq, cellsId, h3d])) | ((first | refine awp_seq_cond _ rfl (fun hc => ?_) (fun hc => ?_) | refine awp_cond _ rfl (fun hc => ?_) (fun hc => ?_)) <;> (first | (cases hc; done) | ((try simp only [boolS] at hc); (try (exfalso; omega))))) | refine awp_seq_block ?_ | refine awp_block ?_ | refine awp_seq_skip ?_ | refine awp_seq_ret ?_ | refine awp_seq_exit ?_ | refine awp_skip ?_ | refine awp_exit ?_ | refine awp_ret ?_ | refine seqK_n ?_ | refine seqK_e ?_ | refine seqK_r ?_ | refine blkK_n ?_ | refine blkK_e ?_ | refine blkK_o rfl ?_ | refine blkK_r ?_ | refine loopK_e ?_ | refine loopK_r ?_ | refine retQ_E (by (simp (disch := omega) only [go_sem, Nat.reduceBEq, Nat.reduceBeqDiff, Nat.reduceEqDiff, ↓reduceIte, reduceCtorEq, Nat.reduceAdd, Nat.reduceMul, Nat.reduceLeDiff, Nat.reduceLT, Int.reduceLT, Int.reduceLE, Int.reduceEq, cellsId, h3d]); rfl) rfl ?_ | (refine hK _ ?_; clear hK K) | (refine stepG_split (fun hb => ?_) (fun hb => ?_) <;> (have hb2 := hb; try simp only [boolS] at hb2) <;> ((first | have hb3 : (_ : Bool) = _ := hb2 | have hb3 := eq_false hb2 | have hb3 := eq_true hb2); (simp (disch := omega) only [go_sem, Nat.reduceBEq, Nat.reduceBeqDiff, Nat.reduceEqDiff, ↓reduceIte, reduceCtorEq, Nat.reduceAdd, Nat.reduceMul, Nat.reduceLeDiff, Nat.reduceLT, Int.reduceLT, Int.reduceLE, Int.reduceEq, hb, hb3, cellsId, h3d]); clear hb hb3; (try (exfalso; omega)))) | (exfalso; omega))
        refine fin_pure ?_ (Le.refl _)
        simp only [pureD, pureD.pureL, pure_cellsU, pure_encU, Bool.and_self]
    · have e : takeE u id = 4 := by unfold takeE; rw [if_neg (by simp [h1]), if_pos (by simpa using h2)]
      rw [e, if_neg (by decide), if_neg (by decide)]
      rw [Bool.not_eq_true] at h2
      rw [h1] at c1
      rw [h2] at c3
      repeat' (first | refine awp_assoc ?_ | ((first | refine awp_seq_reg fun K hK => ?_ | refine awp_seq_draw (by decide +kernel) fun K hK => ?_ | refine awp_reg' fun K hK => ?_ | refine awp_draw' (by decide +kernel) fun K hK => ?_ | refine callW_pc (c1) ?_ | refine callD_pc (c1) ?_ | refine callW_pc (c3) ?_ | refine callD_pc (c3) ?_ | refine callW_pc (c4) ?_ | refine callD_pc (c4) ?_); (simp (disch := omega) only [go_sem, Nat.reduceBEq, Nat.reduceBeqDiff, Nat.reduceEqDiff, ↓reduceIte, reduceCtorEq, Nat.reduceAdd, Nat.reduceMul, Nat.reduceLeDiff, Nat.reduceLT, Int.reduceLT, Int.reduceLE, Int.reduceEq, cellsId])) | ((first | refine awp_seq_cond _ rfl (fun hc => ?_) (fun hc => ?_) | refine awp_cond _ rfl (fun hc => ?_) (fun hc => ?_)) <;> (first | (cases hc; done) | ((try simp only [boolS] at hc); (try (exfalso; omega))))) | refine awp_seq_block ?_ | refine awp_block ?_ | refine awp_seq_skip ?_ | refine awp_seq_ret ?_ | refine awp_seq_exit ?_ | refine awp_skip ?_ | refine awp_exit ?_ | refine awp_ret ?_ | refine seqK_n ?_ | refine seqK_e ?_ | refine seqK_r ?_ | refine blkK_n ?_ | refine blkK_e ?_ | refine blkK_o rfl ?_ | refine blkK_r ?_ | refine loopK_e ?_ | refine loopK_r ?_ | refine retQ_E (by (simp (disch := omega) only [go_sem, Nat.reduceBEq, Nat.reduceBeqDiff, Nat.reduceEqDiff, ↓reduceIte, reduceCtorEq, Nat.reduceAdd, Nat.reduceMul, Nat.reduceLeDiff, Nat.reduceLT, Int.reduceLT, Int.reduceLE, Int.reduceEq, cellsId]); rfl) rfl ?_ | (refine hK _ ?_; clear hK K) | (refine stepG_split (fun hb => ?_) (fun hb => ?_) <;> (have hb2 := hb; try simp only [boolS] at hb2) <;> ((first | have hb3 : (_ : Bool) = _ := hb2 | have hb3 := eq_false hb2 | have hb3 := eq_true hb2); (simp (disch := omega) only [go_sem, Nat.reduceBEq, Nat.reduceBeqDiff, Nat.reduceEqDiff, ↓reduceIte, reduceCtorEq, Nat.reduceAdd, Nat.reduceMul, Nat.reduceLeDiff, Nat.reduceLT, Int.reduceLT, Int.reduceLE, Int.reduceEq, hb, hb3, cellsId]); clear hb hb3; (try (exfalso; omega)))) | (exfalso; omega))
      exact fin_pure rfl (Le.tup ⟨le_zeroU, le_zeroU, Le.refl _, trivial⟩)
  · have e : takeE u id = 1 := by unfold takeE; rw [if_pos (by simpa using h1)]
    rw [e, if_neg (by decide), if_neg (by decide)]
    rw [Bool.not_eq_true] at h1
    rw [h1] at c1
    repeat' (first | refine awp_assoc ?_ | ((first | refine awp_seq_reg fun K hK => ?_ | refine awp_seq_draw (by decide +kernel) fun K hK => ?_ | refine awp_reg' fun K hK => ?_ | refine awp_draw' (by decide +kernel) fun K hK => ?_ | refine callW_pc (c1) ?_ | refine callD_pc (c1) ?_ | refine callW_pc (c3) ?_ | refine callD_pc (c3) ?_ | refine callW_pc (c4) ?_ | refine callD_pc (c4) ?_); (simp (disch := omega) only [go_sem, Nat.reduceBEq, Nat.reduceBeqDiff, Nat.reduceEqDiff, ↓reduceIte, reduceCtorEq, Nat.reduceAdd, Nat.reduceMul, Nat.reduceLeDiff, Nat.reduceLT, Int.reduceLT, Int.reduceLE, Int.reduceEq, cellsId])) | ((first | refine awp_seq_cond _ rfl (fun hc => ?_) (fun hc => ?_) | refine awp_cond _ rfl (fun hc => ?_) (fun hc => ?_)) <;> (first | (cases hc; done) | ((try simp only [boolS] at hc); (try (exfalso; omega))))) | refine awp_seq_block ?_ | refine awp_block ?_ | refine awp_seq_skip ?_ | refine awp_seq_ret ?_ | refine awp_seq_exit ?_ | refine awp_skip ?_ | refine awp_exit ?_ | refine awp_ret ?_ | refine seqK_n ?_ | refine seqK_e ?_ | refine seqK_r ?_ | refine blkK_n ?_ | refine blkK_e ?_ | refine blkK_o rfl ?_ | refine blkK_r ?_ | refine loopK_e ?_ | refine loopK_r ?_ | refine retQ_E (by (simp (disch := omega) only [go_sem, Nat.reduceBEq, Nat.reduceBeqDiff, Nat.reduceEqDiff, ↓reduceIte, reduceCtorEq, Nat.reduceAdd, Nat.reduceMul, Nat.reduceLeDiff, Nat.reduceLT, Int.reduceLT, Int.reduceLE, Int.reduceEq, cellsId]); rfl) rfl ?_ | (refine hK _ ?_; clear hK K) | (refine stepG_split (fun hb => ?_) (fun hb => ?_) <;> (have hb2 := hb; try simp only [boolS] at hb2) <;> ((first | have hb3 : (_ : Bool) = _ := hb2 | have hb3 := eq_false hb2 | have hb3 := eq_true hb2); (simp (disch := omega) only [go_sem, Nat.reduceBEq, Nat.reduceBeqDiff, Nat.reduceEqDiff, ↓reduceIte, reduceCtorEq, Nat.reduceAdd, Nat.reduceMul, Nat.reduceLeDiff, Nat.reduceLT, Int.reduceLT, Int.reduceLE, Int.reduceEq, hb, hb3, cellsId]); clear hb hb3; (try (exfalso; omega)))) | (exfalso; omega))
    exact fin_pure rfl (Le.tup ⟨le_zeroU, le_zeroU, Le.refl _, trivial⟩)
end Go.Proofs.YtkhjpcmpljpmjaaGreatDoor
