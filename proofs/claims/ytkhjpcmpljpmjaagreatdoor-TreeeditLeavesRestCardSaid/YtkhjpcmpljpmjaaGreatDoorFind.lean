/-
 The walks of Find, Parent, Ancestors. No condition but lengths.
-/
import Derived.Test.YtkhjpcmpljpmjaaGreatDoorCopy
set_option maxRecDepth 100000
set_option maxHeartbeats 8000000
set_option linter.unusedSimpArgs false
set_option linter.unusedVariables false
namespace Go.Proofs.YtkhjpcmpljpmjaaGreatDoor
open Abs Facts Tr
attribute [local irreducible] awp
theorem sealD_boxAgg {P : Program} {H : HM} {id e : Nat} {cs : List D} (k : Nat) (hH : H id = some (.box e cs)) (ha : isAggT P e = true) (hp : pureD.pureL cs = true) : sealD P H (k + 2) (.ptr id 0) = some (.rptr (.agg cs)) := by
 unfold sealD
 simp only [pureD, Bool.false_eq_true, if_false, hH, ha, true_or, and_self, if_true, optL_pure k cs hp, Option.map_some]
namespace Tr
theorem sm_nodes : ∀ t : T, smB t = true → ∀ x ∈ nodesT t, smB x = true := by
 refine ind1 fun t ih h x hx => ?_
 rw [nodesT_eq] at hx
 rcases List.mem_cons.1 hx with rfl | hx
 ·exact h
 ·obtain ⟨k, hk, hx⟩ := List.mem_flatMap.1 hx
  exact ih k hk ((sm_iff t).1 h |>.2.2.2 k hk) x hx
theorem way_mem (id : Idv) : ∀ t : T, ∀ x ∈ wayT id t, x ∈ nodesT t := by
 refine ind1 fun t ih x hx => ?_
 rw [wayT_eq] at hx
 split at hx
 ·rw [List.mem_singleton.1 hx]; exact nodesT_self t
 ·split at hx
  ·rename_i w hw
   obtain ⟨k, hk, rfl⟩ := List.mem_map.1 (List.mem_of_find?_eq_some hw)
   rcases List.mem_cons.1 hx with rfl | hx
   ·exact nodesT_self _
   ·exact nodesT_kid hk (ih k hk x hx)
  ·cases hx
def T.zero : T := .mk Idv.zero 0 ByteArray.empty [] [] []
def findR (id : Idv) (t : T) : T × Bool := match (wayT id t).getLast? with
 | some x => (x, true)
 | none => (T.zero, false)
def parR (id : Idv) (t : T) : Idv × Int × Bool :=
 let w := wayT id t
 if h : w.length < 2 then (Idv.zero, -1, false) else
  let p := w[w.length - 2]
  let n := findN (fun k => !(wayT id k).isEmpty) p.kids
  (p.id, if n < p.kids.length then (n : Int) else -1, true)
def ancR (id : Idv) (t : T) : List Idv := ((wayT id t).dropLast.map T.id).reverse
end Tr
theorem encWay_nil {w : List T} (h : w = []) : encWay w = .nil := if_pos h
theorem encWay_some {w : List T} (h : w ≠ []) : encWay w = .rsl true 8 (w.map encU) := if_neg h
theorem last_get {α : Type} : ∀ (l : List α) (h : l ≠ []), l.getLast? = some (l[l.length - 1]'(by have := List.length_pos_iff.2 h; omega))
 | l, h => by rw [List.getLast?_eq_getElem?, List.getElem?_eq_getElem (by have := List.length_pos_iff.2 h; omega)]
theorem le_zeroU : Le (.agg [.int .i64 0, .int .i64 0, .int .i64 0, .int .i64 0, .str ByteArray.empty, .nil, .nil, .nil]) (encU T.zero) := by
 rw [encU, cellsU_eq]
 exact Le.agg ⟨Le.refl _, Le.refl _, Le.refl _, Le.refl _, Le.refl _, Le.nil 4, Le.nil 4, Le.nil 8, trivial⟩
theorem pc_Find (t : T) (hs : smB t = true) (hd : depT t ≤ 1000000000) (id : Idv) : PC Tryz.prog 49 [encU t, encId id] (.tup [encU (findR id t).1, .bool (findR id t).2]) := by
 have hw := pc_way id t (sm_fit t hs) hd
 have hl := wayT_len id t
 refine zqzd 3 (by simp only [pureD.pureL, pure_encU, pureD, Bool.and_self]; rfl) (by simp only [pureD, pureD.pureL, pure_encU, Bool.and_self]) (zqze [] Tryz.func49 rfl (by decide +kernel) mixed (by decide +kernel) (by simp [Tryz.ntmps49]) ?_)
 show awp _ _ (Code.seq _ _) _ _
 rw [show Tryz.f49.results.toList = [.cell 4 27, .tmp 5] from rfl]
 skip
 by_cases h0 : wayT id t = []
 ·rw [encWay_nil h0] at hw
  have hf : findR id t = (T.zero, false) := by unfold findR; rw [h0]; rfl
  rw [hf]
  repeat' (first | refine zqj ?_ | ((first | refine zqh fun K hK => ?_ | refine zqe (by decide +kernel) fun K hK => ?_ | refine zqr fun K hK => ?_ | refine zqq (by decide +kernel) fun K hK => ?_ | refine zqs (hw) ?_ | refine zqt (hw) ?_); (simp (disch := omega) only [go_sem, Nat.reduceBEq, Nat.reduceBeqDiff, Nat.reduceEqDiff, ↓reduceIte, reduceCtorEq, Nat.reduceAdd, Nat.reduceMul, Nat.reduceLeDiff, Nat.reduceLT, Int.reduceLT, Int.reduceLE, Int.reduceEq, cellsId])) | ((first | refine zqd _ rfl (fun hc => ?_) (fun hc => ?_) | refine zqm _ rfl (fun hc => ?_) (fun hc => ?_)) <;> (first | (cases hc; done) | ((try simp only [boolS] at hc); (try (exfalso; omega))))) | refine zqa ?_ | refine zqi ?_ | refine zqb ?_ | refine zqg ?_ | refine zqc ?_ | refine zqk ?_ | refine zql ?_ | refine zqn ?_ | refine zqv ?_ | refine zqw ?_ | refine zqx ?_ | refine zqy ?_ | refine zqz ?_ | refine zqza rfl ?_ | refine zqzb ?_ | refine zqp ?_ | refine zqo ?_ | refine zqu (by (simp (disch := omega) only [go_sem, Nat.reduceBEq, Nat.reduceBeqDiff, Nat.reduceEqDiff, ↓reduceIte, reduceCtorEq, Nat.reduceAdd, Nat.reduceLeDiff, Nat.reduceLT, cellsId]); rfl) rfl ?_ | (refine hK _ ?_; clear hK K) | (refine zqf (fun hb => ?_) (fun hb => ?_) <;> (have hb2 := hb; try simp only [boolS] at hb2) <;> ((first | have hb3 : (_ : Bool) = _ := hb2 | have hb3 := eq_false hb2 | have hb3 := eq_true hb2); (simp (disch := omega) only [go_sem, Nat.reduceBEq, Nat.reduceBeqDiff, Nat.reduceEqDiff, ↓reduceIte, reduceCtorEq, Nat.reduceAdd, Nat.reduceMul, Nat.reduceLeDiff, Nat.reduceLT, Int.reduceLT, Int.reduceLE, Int.reduceEq, hb, hb3, cellsId]); clear hb hb3; (try (exfalso; omega)))) | (exfalso; omega))
  exact fin_pure (by simp only [pureD, pureD.pureL, Bool.and_self]) (Le.tup ⟨le_zeroU, Le.refl _, trivial⟩)
 ·rw [encWay_some h0] at hw
  have hpos := List.length_pos_iff.2 h0
  have hi : (((wayT id t).length : Int) - 1).toNat = (wayT id t).length - 1 := by omega
  have hcp := pc_copied ((wayT id t)[(wayT id t).length - 1]'(by omega)) (sm_nodes t hs _ (way_mem id t _ (List.getElem_mem _)))
  have hf : findR id t = ((wayT id t)[(wayT id t).length - 1]'(by omega), true) := by unfold findR; rw [last_get _ h0]
  rw [hf]
  repeat' (first | refine zqj ?_ | ((first | refine zqh fun K hK => ?_ | refine zqe (by decide +kernel) fun K hK => ?_ | refine zqr fun K hK => ?_ | refine zqq (by decide +kernel) fun K hK => ?_ | refine zqs (hw) ?_ | refine zqt (hw) ?_ | refine zqs (hcp) ?_ | refine zqt (hcp) ?_); (simp (disch := omega) only [go_sem, Nat.reduceBEq, Nat.reduceBeqDiff, Nat.reduceEqDiff, ↓reduceIte, reduceCtorEq, Nat.reduceAdd, Nat.reduceMul, Nat.reduceLeDiff, Nat.reduceLT, Int.reduceLT, Int.reduceLE, Int.reduceEq, cellsId, hi])) | ((first | refine zqd _ rfl (fun hc => ?_) (fun hc => ?_) | refine zqm _ rfl (fun hc => ?_) (fun hc => ?_)) <;> (first | (cases hc; done) | ((try simp only [boolS] at hc); (try (exfalso; omega))))) | refine zqa ?_ | refine zqi ?_ | refine zqb ?_ | refine zqg ?_ | refine zqc ?_ | refine zqk ?_ | refine zql ?_ | refine zqn ?_ | refine zqv ?_ | refine zqw ?_ | refine zqx ?_ | refine zqy ?_ | refine zqz ?_ | refine zqza rfl ?_ | refine zqzb ?_ | refine zqp ?_ | refine zqo ?_ | refine zqu (by (simp (disch := omega) only [go_sem, Nat.reduceBEq, Nat.reduceBeqDiff, Nat.reduceEqDiff, ↓reduceIte, reduceCtorEq, Nat.reduceAdd, Nat.reduceLeDiff, Nat.reduceLT, cellsId, hi]); rfl) rfl ?_ | (refine hK _ ?_; clear hK K) | (refine zqf (fun hb => ?_) (fun hb => ?_) <;> (have hb2 := hb; try simp only [boolS] at hb2) <;> ((first | have hb3 : (_ : Bool) = _ := hb2 | have hb3 := eq_false hb2 | have hb3 := eq_true hb2); (simp (disch := omega) only [go_sem, Nat.reduceBEq, Nat.reduceBeqDiff, Nat.reduceEqDiff, ↓reduceIte, reduceCtorEq, Nat.reduceAdd, Nat.reduceMul, Nat.reduceLeDiff, Nat.reduceLT, Int.reduceLT, Int.reduceLE, Int.reduceEq, hb, hb3, cellsId, hi]); clear hb hb3; (try (exfalso; omega)))) | (exfalso; omega))
  exact fin_pure (by simp only [pureD, pureD.pureL, pure_cellsU, Bool.and_self]) (Le.refl _)
theorem pc_Parent1 (t : T) (hs : smB t = true) (hd : depT t ≤ 1000000000) (id : Idv) : PC Tryz.prog 106 [encU t, .rptr (encId id)] (.bool (!(wayT id t).isEmpty)) := by
 have hw := pc_way id t (sm_fit t hs) hd
 refine zqzd 1 (by simp only [pureD.pureL, pure_encU, pureD, Bool.and_self]; rfl) rfl (zqze [] Tryz.func106 rfl (by decide +kernel) mixed (by decide +kernel) (by simp [Tryz.ntmps106]) ?_)
 show awp _ _ (Code.seq _ _) _ _
 skip
 by_cases h0 : wayT id t = []
 ·rw [encWay_nil h0] at hw
  rw [h0]
  repeat' (first | refine zqj ?_ | ((first | refine zqh fun K hK => ?_ | refine zqe (by decide +kernel) fun K hK => ?_ | refine zqr fun K hK => ?_ | refine zqq (by decide +kernel) fun K hK => ?_ | refine zqs (hw) ?_ | refine zqt (hw) ?_); (simp (disch := omega) only [go_sem, Nat.reduceBEq, Nat.reduceBeqDiff, Nat.reduceEqDiff, ↓reduceIte, reduceCtorEq, Nat.reduceAdd, Nat.reduceMul, Nat.reduceLeDiff, Nat.reduceLT, Int.reduceLT, Int.reduceLE, Int.reduceEq])) | ((first | refine zqd _ rfl (fun hc => ?_) (fun hc => ?_) | refine zqm _ rfl (fun hc => ?_) (fun hc => ?_)) <;> (first | (cases hc; done) | ((try simp only [boolS] at hc); (try (exfalso; omega))))) | refine zqa ?_ | refine zqi ?_ | refine zqb ?_ | refine zqg ?_ | refine zqc ?_ | refine zqk ?_ | refine zql ?_ | refine zqn ?_ | refine zqv ?_ | refine zqw ?_ | refine zqx ?_ | refine zqy ?_ | refine zqz ?_ | refine zqza rfl ?_ | refine zqzb ?_ | refine zqp ?_ | refine zqo ?_ | refine zqu (by (simp (disch := omega) only [go_sem, Nat.reduceBEq, Nat.reduceBeqDiff, Nat.reduceEqDiff, ↓reduceIte, reduceCtorEq, Nat.reduceAdd, Nat.reduceLeDiff, Nat.reduceLT]); rfl) rfl ?_ | (refine hK _ ?_; clear hK K) | (refine zqf (fun hb => ?_) (fun hb => ?_) <;> (have hb2 := hb; try simp only [boolS] at hb2) <;> ((first | have hb3 : (_ : Bool) = _ := hb2 | have hb3 := eq_false hb2 | have hb3 := eq_true hb2); (simp (disch := omega) only [go_sem, Nat.reduceBEq, Nat.reduceBeqDiff, Nat.reduceEqDiff, ↓reduceIte, reduceCtorEq, Nat.reduceAdd, Nat.reduceMul, Nat.reduceLeDiff, Nat.reduceLT, Int.reduceLT, Int.reduceLE, Int.reduceEq, hb, hb3]); clear hb hb3; (try (exfalso; omega)))) | (exfalso; omega))
  exact fin_bool rfl
 ·rw [encWay_some h0] at hw
  rw [show (wayT id t).isEmpty = false from by simpa using h0]
  repeat' (first | refine zqj ?_ | ((first | refine zqh fun K hK => ?_ | refine zqe (by decide +kernel) fun K hK => ?_ | refine zqr fun K hK => ?_ | refine zqq (by decide +kernel) fun K hK => ?_ | refine zqs (hw) ?_ | refine zqt (hw) ?_); (simp (disch := omega) only [go_sem, Nat.reduceBEq, Nat.reduceBeqDiff, Nat.reduceEqDiff, ↓reduceIte, reduceCtorEq, Nat.reduceAdd, Nat.reduceMul, Nat.reduceLeDiff, Nat.reduceLT, Int.reduceLT, Int.reduceLE, Int.reduceEq])) | ((first | refine zqd _ rfl (fun hc => ?_) (fun hc => ?_) | refine zqm _ rfl (fun hc => ?_) (fun hc => ?_)) <;> (first | (cases hc; done) | ((try simp only [boolS] at hc); (try (exfalso; omega))))) | refine zqa ?_ | refine zqi ?_ | refine zqb ?_ | refine zqg ?_ | refine zqc ?_ | refine zqk ?_ | refine zql ?_ | refine zqn ?_ | refine zqv ?_ | refine zqw ?_ | refine zqx ?_ | refine zqy ?_ | refine zqz ?_ | refine zqza rfl ?_ | refine zqzb ?_ | refine zqp ?_ | refine zqo ?_ | refine zqu (by (simp (disch := omega) only [go_sem, Nat.reduceBEq, Nat.reduceBeqDiff, Nat.reduceEqDiff, ↓reduceIte, reduceCtorEq, Nat.reduceAdd, Nat.reduceLeDiff, Nat.reduceLT]); rfl) rfl ?_ | (refine hK _ ?_; clear hK K) | (refine zqf (fun hb => ?_) (fun hb => ?_) <;> (have hb2 := hb; try simp only [boolS] at hb2) <;> ((first | have hb3 : (_ : Bool) = _ := hb2 | have hb3 := eq_false hb2 | have hb3 := eq_true hb2); (simp (disch := omega) only [go_sem, Nat.reduceBEq, Nat.reduceBeqDiff, Nat.reduceEqDiff, ↓reduceIte, reduceCtorEq, Nat.reduceAdd, Nat.reduceMul, Nat.reduceLeDiff, Nat.reduceLT, Int.reduceLT, Int.reduceLE, Int.reduceEq, hb, hb3]); clear hb hb3; (try (exfalso; omega)))) | (exfalso; omega))
  exact fin_bool rfl
theorem dep_nodes : ∀ t : T, ∀ x ∈ nodesT t, depT x ≤ depT t := by
 refine ind1 fun t ih x hx => ?_
 rw [nodesT_eq] at hx
 rcases List.mem_cons.1 hx with rfl | hx
 ·exact Nat.le_refl _
 ·obtain ⟨k, hk, hx⟩ := List.mem_flatMap.1 hx
  have := ih k hk x hx
  have := depT_kid hk
  omega
theorem pc_Parent (t : T) (hs : smB t = true) (hd : depT t ≤ 1000000000) (id : Idv) : PC Tryz.prog 56 [encU t, encId id] (.tup [encId (parR id t).1, .int .i64 (parR id t).2.1, .bool (parR id t).2.2]) := by
 have hw := pc_way id t (sm_fit t hs) hd
 have hl := wayT_len id t
 refine zqzd 3 (by simp only [pureD.pureL, pure_encU, pureD, Bool.and_self]; rfl) rfl (zqze [] Tryz.func56 rfl (by decide +kernel) mixed (by decide +kernel) (by simp [Tryz.ntmps56]) ?_)
 show awp _ _ (Code.seq _ _) _ _
 rw [show Tryz.f56.results.toList = [.cell 4 23, .tmp 5, .tmp 6] from rfl]
 skip
 by_cases h2 : (wayT id t).length < 2
 ·have hp : parR id t = (Idv.zero, -1, false) := by unfold parR; exact dif_pos h2
  rw [hp]
  by_cases h0 : wayT id t = []
  ·rw [encWay_nil h0] at hw
   repeat' (first | refine zqj ?_ | ((first | refine zqh fun K hK => ?_ | refine zqe (by decide +kernel) fun K hK => ?_ | refine zqr fun K hK => ?_ | refine zqq (by decide +kernel) fun K hK => ?_ | refine zqs (hw) ?_ | refine zqt (hw) ?_); (simp (disch := omega) only [go_sem, Nat.reduceBEq, Nat.reduceBeqDiff, Nat.reduceEqDiff, ↓reduceIte, reduceCtorEq, Nat.reduceAdd, Nat.reduceMul, Nat.reduceLeDiff, Nat.reduceLT, Int.reduceLT, Int.reduceLE, Int.reduceEq, cellsId])) | ((first | refine zqd _ rfl (fun hc => ?_) (fun hc => ?_) | refine zqm _ rfl (fun hc => ?_) (fun hc => ?_)) <;> (first | (cases hc; done) | ((try simp only [boolS] at hc); (try (exfalso; omega))))) | refine zqa ?_ | refine zqi ?_ | refine zqb ?_ | refine zqg ?_ | refine zqc ?_ | refine zqk ?_ | refine zql ?_ | refine zqn ?_ | refine zqv ?_ | refine zqw ?_ | refine zqx ?_ | refine zqy ?_ | refine zqz ?_ | refine zqza rfl ?_ | refine zqzb ?_ | refine zqp ?_ | refine zqo ?_ | refine zqu (by (simp (disch := omega) only [go_sem, Nat.reduceBEq, Nat.reduceBeqDiff, Nat.reduceEqDiff, ↓reduceIte, reduceCtorEq, Nat.reduceAdd, Nat.reduceLeDiff, Nat.reduceLT, cellsId]); rfl) rfl ?_ | (refine hK _ ?_; clear hK K) | (refine zqf (fun hb => ?_) (fun hb => ?_) <;> (have hb2 := hb; try simp only [boolS] at hb2) <;> ((first | have hb3 : (_ : Bool) = _ := hb2 | have hb3 := eq_false hb2 | have hb3 := eq_true hb2); (simp (disch := omega) only [go_sem, Nat.reduceBEq, Nat.reduceBeqDiff, Nat.reduceEqDiff, ↓reduceIte, reduceCtorEq, Nat.reduceAdd, Nat.reduceMul, Nat.reduceLeDiff, Nat.reduceLT, Int.reduceLT, Int.reduceLE, Int.reduceEq, hb, hb3, cellsId]); clear hb hb3; (try (exfalso; omega)))) | (exfalso; omega))
   exact fin_pure rfl (Le.refl _)
  ·rw [encWay_some h0] at hw
   repeat' (first | refine zqj ?_ | ((first | refine zqh fun K hK => ?_ | refine zqe (by decide +kernel) fun K hK => ?_ | refine zqr fun K hK => ?_ | refine zqq (by decide +kernel) fun K hK => ?_ | refine zqs (hw) ?_ | refine zqt (hw) ?_); (simp (disch := omega) only [go_sem, Nat.reduceBEq, Nat.reduceBeqDiff, Nat.reduceEqDiff, ↓reduceIte, reduceCtorEq, Nat.reduceAdd, Nat.reduceMul, Nat.reduceLeDiff, Nat.reduceLT, Int.reduceLT, Int.reduceLE, Int.reduceEq, cellsId])) | ((first | refine zqd _ rfl (fun hc => ?_) (fun hc => ?_) | refine zqm _ rfl (fun hc => ?_) (fun hc => ?_)) <;> (first | (cases hc; done) | ((try simp only [boolS] at hc); (try (exfalso; omega))))) | refine zqa ?_ | refine zqi ?_ | refine zqb ?_ | refine zqg ?_ | refine zqc ?_ | refine zqk ?_ | refine zql ?_ | refine zqn ?_ | refine zqv ?_ | refine zqw ?_ | refine zqx ?_ | refine zqy ?_ | refine zqz ?_ | refine zqza rfl ?_ | refine zqzb ?_ | refine zqp ?_ | refine zqo ?_ | refine zqu (by (simp (disch := omega) only [go_sem, Nat.reduceBEq, Nat.reduceBeqDiff, Nat.reduceEqDiff, ↓reduceIte, reduceCtorEq, Nat.reduceAdd, Nat.reduceLeDiff, Nat.reduceLT, cellsId]); rfl) rfl ?_ | (refine hK _ ?_; clear hK K) | (refine zqf (fun hb => ?_) (fun hb => ?_) <;> (have hb2 := hb; try simp only [boolS] at hb2) <;> ((first | have hb3 : (_ : Bool) = _ := hb2 | have hb3 := eq_false hb2 | have hb3 := eq_true hb2); (simp (disch := omega) only [go_sem, Nat.reduceBEq, Nat.reduceBeqDiff, Nat.reduceEqDiff, ↓reduceIte, reduceCtorEq, Nat.reduceAdd, Nat.reduceMul, Nat.reduceLeDiff, Nat.reduceLT, Int.reduceLT, Int.reduceLE, Int.reduceEq, hb, hb3, cellsId]); clear hb hb3; (try (exfalso; omega)))) | (exfalso; omega))
   exact fin_pure rfl (Le.refl _)
 ·have h0 : wayT id t ≠ [] := fun h => by rw [h] at h2; simp at h2
  rw [encWay_some h0] at hw
  have hi : (((wayT id t).length : Int) - 2).toNat = (wayT id t).length - 2 := by omega
  obtain ⟨p, hpe⟩ : ∃ p, p = ((wayT id t)[(wayT id t).length - 2]'(by omega)) := ⟨_, rfl⟩
  have hpm : p ∈ nodesT t := by rw [hpe]; exact way_mem id t _ (List.getElem_mem _)
  have hsp := sm_nodes t hs p hpm
  have hdp := dep_nodes t p hpm
  obtain ⟨_, _, h3, h4⟩ := (sm_iff p).1 hsp
  have hpar : parR id t = (p.id, (if findN (fun k => !(wayT id k).isEmpty) p.kids < p.kids.length then (findN (fun k => !(wayT id k).isEmpty) p.kids : Int) else -1), true) := by unfold parR; rw [dif_neg h2, ← hpe]
  rw [hpar]
  have hix := pc_IndexFuncU false p.kids (by unfold maxLen; omega) (g := 106) (cap := [.rptr (encId id)]) (fun k => !(wayT id k).isEmpty) rfl (fun k hk => pc_Parent1 k (h4 k hk) (by have := depT_kid hk; omega) id)
  repeat' (first | refine zqj ?_ | ((first | refine zqh fun K hK => ?_ | refine zqe (by decide +kernel) fun K hK => ?_ | refine zqr fun K hK => ?_ | refine zqq (by decide +kernel) fun K hK => ?_ | refine zqs (hw) ?_ | refine zqt (hw) ?_); (simp (disch := omega) only [go_sem, Nat.reduceBEq, Nat.reduceBeqDiff, Nat.reduceEqDiff, ↓reduceIte, reduceCtorEq, Nat.reduceAdd, Nat.reduceMul, Nat.reduceLeDiff, Nat.reduceLT, Int.reduceLT, Int.reduceLE, Int.reduceEq, cellsId, hi, ← hpe])) | ((first | refine zqd _ rfl (fun hc => ?_) (fun hc => ?_) | refine zqm _ rfl (fun hc => ?_) (fun hc => ?_)) <;> (first | (cases hc; done) | ((try simp only [boolS] at hc); (try (exfalso; omega))))) | refine zqa ?_ | refine zqi ?_ | refine zqb ?_ | refine zqg ?_ | refine zqc ?_ | refine zqk ?_ | refine zql ?_ | refine zqn ?_ | refine zqv ?_ | refine zqw ?_ | refine zqx ?_ | refine zqy ?_ | refine zqz ?_ | refine zqza rfl ?_ | refine zqzb ?_ | refine zqp ?_ | refine zqo ?_ | refine zqu (by (simp (disch := omega) only [go_sem, Nat.reduceBEq, Nat.reduceBeqDiff, Nat.reduceEqDiff, ↓reduceIte, reduceCtorEq, Nat.reduceAdd, Nat.reduceLeDiff, Nat.reduceLT, cellsId, hi, ← hpe]); rfl) rfl ?_ | (refine hK _ ?_; clear hK K) | (refine zqf (fun hb => ?_) (fun hb => ?_) <;> (have hb2 := hb; try simp only [boolS] at hb2) <;> ((first | have hb3 : (_ : Bool) = _ := hb2 | have hb3 := eq_false hb2 | have hb3 := eq_true hb2); (simp (disch := omega) only [go_sem, Nat.reduceBEq, Nat.reduceBeqDiff, Nat.reduceEqDiff, ↓reduceIte, reduceCtorEq, Nat.reduceAdd, Nat.reduceMul, Nat.reduceLeDiff, Nat.reduceLT, Int.reduceLT, Int.reduceLE, Int.reduceEq, hb, hb3, cellsId, hi, ← hpe]); clear hb hb3; (try (exfalso; omega)))) | (exfalso; omega))
  refine callW_rc (PC.borrow hix rfl 4 (optL_cons (sealD_pure 3 (pure_encUs _)) (optL_cons (sealD_fn 3 rfl (optL_cons (sealD_boxAgg (e := 23) (cs := cellsId id) 1 ?_ isAggT23 rfl) optL_nil)) optL_nil))) ?_
  ·(simp (disch := omega) only [go_sem, Nat.reduceBEq, Nat.reduceBeqDiff, Nat.reduceEqDiff, ↓reduceIte, reduceCtorEq, Nat.reduceAdd, Nat.reduceMul, Nat.reduceLeDiff, Nat.reduceLT, Int.reduceLT, Int.reduceLE, Int.reduceEq, cellsId])
  (try (simp (disch := omega) only [go_sem, Nat.reduceBEq, Nat.reduceBeqDiff, Nat.reduceEqDiff, ↓reduceIte, reduceCtorEq, Nat.reduceAdd, Nat.reduceMul, Nat.reduceLeDiff, Nat.reduceLT, Int.reduceLT, Int.reduceLE, Int.reduceEq, cellsId])); repeat' (first | refine zqj ?_ | ((first | refine zqh fun K hK => ?_ | refine zqe (by decide +kernel) fun K hK => ?_ | refine zqr fun K hK => ?_ | refine zqq (by decide +kernel) fun K hK => ?_); (simp (disch := omega) only [go_sem, Nat.reduceBEq, Nat.reduceBeqDiff, Nat.reduceEqDiff, ↓reduceIte, reduceCtorEq, Nat.reduceAdd, Nat.reduceMul, Nat.reduceLeDiff, Nat.reduceLT, Int.reduceLT, Int.reduceLE, Int.reduceEq, cellsId])) | ((first | refine zqd _ rfl (fun hc => ?_) (fun hc => ?_) | refine zqm _ rfl (fun hc => ?_) (fun hc => ?_)) <;> (first | (cases hc; done) | ((try simp only [boolS] at hc); (try (exfalso; omega))))) | refine zqa ?_ | refine zqi ?_ | refine zqb ?_ | refine zqg ?_ | refine zqc ?_ | refine zqk ?_ | refine zql ?_ | refine zqn ?_ | refine zqv ?_ | refine zqw ?_ | refine zqx ?_ | refine zqy ?_ | refine zqz ?_ | refine zqza rfl ?_ | refine zqzb ?_ | refine zqp ?_ | refine zqo ?_ | refine zqu (by (simp (disch := omega) only [go_sem, Nat.reduceBEq, Nat.reduceBeqDiff, Nat.reduceEqDiff, ↓reduceIte, reduceCtorEq, Nat.reduceAdd, Nat.reduceLeDiff, Nat.reduceLT, cellsId]); rfl) rfl ?_ | (refine hK _ ?_; clear hK K) | (refine zqf (fun hb => ?_) (fun hb => ?_) <;> (have hb2 := hb; try simp only [boolS] at hb2) <;> ((first | have hb3 : (_ : Bool) = _ := hb2 | have hb3 := eq_false hb2 | have hb3 := eq_true hb2); (simp (disch := omega) only [go_sem, Nat.reduceBEq, Nat.reduceBeqDiff, Nat.reduceEqDiff, ↓reduceIte, reduceCtorEq, Nat.reduceAdd, Nat.reduceMul, Nat.reduceLeDiff, Nat.reduceLT, Int.reduceLT, Int.reduceLE, Int.reduceEq, hb, hb3, cellsId]); clear hb hb3; (try (exfalso; omega)))) | (exfalso; omega))
  exact fin_pure rfl (Le.refl _)
theorem pc_Ancestors (t : T) (hs : smB t = true) (hd : depT t ≤ 1000000000) (id : Idv) : PC Tryz.prog 118 [encU t, encId id] (encIds (ancR id t)) := by
 have hw := pc_way id t (sm_fit t hs) hd
 have hl := wayT_len id t
 refine zqzd 3 (by simp only [pureD.pureL, pure_encU, pureD, Bool.and_self]; rfl) (pure_encIds _) (zqze [5] Tryz.func118 rfl (by decide +kernel) mixed (by decide +kernel) (by simp [Tryz.ntmps118]) ?_)
 show awp _ _ (Code.seq _ _) _ _
 skip
 by_cases h0 : wayT id t = []
 ·rw [encWay_nil h0] at hw
  have ha : ancR id t = [] := by unfold ancR; rw [h0]; rfl
  rw [ha]
  repeat' (first | refine zqj ?_ | ((first | refine zqh fun K hK => ?_ | refine zqe (by decide +kernel) fun K hK => ?_ | refine zqr fun K hK => ?_ | refine zqq (by decide +kernel) fun K hK => ?_ | refine zqs (hw) ?_ | refine zqt (hw) ?_); (simp (disch := omega) only [go_sem, Nat.reduceBEq, Nat.reduceBeqDiff, Nat.reduceEqDiff, ↓reduceIte, reduceCtorEq, Nat.reduceAdd, Nat.reduceMul, Nat.reduceLeDiff, Nat.reduceLT, Int.reduceLT, Int.reduceLE, Int.reduceEq, cellsId])) | ((first | refine zqd _ rfl (fun hc => ?_) (fun hc => ?_) | refine zqm _ rfl (fun hc => ?_) (fun hc => ?_)) <;> (first | (cases hc; done) | ((try simp only [boolS] at hc); (try (exfalso; omega))))) | refine zqa ?_ | refine zqi ?_ | refine zqb ?_ | refine zqg ?_ | refine zqc ?_ | refine zqk ?_ | refine zql ?_ | refine zqn ?_ | refine zqv ?_ | refine zqw ?_ | refine zqx ?_ | refine zqy ?_ | refine zqz ?_ | refine zqza rfl ?_ | refine zqzb ?_ | refine zqp ?_ | refine zqo ?_ | refine zqu (by (simp (disch := omega) only [go_sem, Nat.reduceBEq, Nat.reduceBeqDiff, Nat.reduceEqDiff, ↓reduceIte, reduceCtorEq, Nat.reduceAdd, Nat.reduceLeDiff, Nat.reduceLT, cellsId]); rfl) rfl ?_ | (refine hK _ ?_; clear hK K) | (refine zqf (fun hb => ?_) (fun hb => ?_) <;> (have hb2 := hb; try simp only [boolS] at hb2) <;> ((first | have hb3 : (_ : Bool) = _ := hb2 | have hb3 := eq_false hb2 | have hb3 := eq_true hb2); (simp (disch := omega) only [go_sem, Nat.reduceBEq, Nat.reduceBeqDiff, Nat.reduceEqDiff, ↓reduceIte, reduceCtorEq, Nat.reduceAdd, Nat.reduceMul, Nat.reduceLeDiff, Nat.reduceLT, Int.reduceLT, Int.reduceLE, Int.reduceEq, hb, hb3, cellsId]); clear hb hb3; (try (exfalso; omega)))) | (exfalso; omega))
  (refine zqzc (fun mz st => ∃ (i : Nat), mz = i - i ∧ st.t 5 = .osl 2 0 ∧ st.t 7 = .int .i64 (-2) ∧ st.H 2 = some (.row 23 0 []) ∧ (i = 0)) ?_ ?_); rotate_left; (rintro mz st ⟨i, rfl, q5, q7, qH2, qp0⟩); rotate_left
  ·(refine ⟨_, 0, rfl, ?_⟩); (simp (disch := omega) only [go_sem, Nat.reduceBEq, Nat.reduceBeqDiff, Nat.reduceEqDiff, ↓reduceIte, reduceCtorEq, Nat.reduceAdd, Nat.reduceMul, Nat.reduceLeDiff, Nat.reduceLT, Int.reduceLT, Int.reduceLE, Int.reduceEq, true_and, and_true, and_self, Int.natCast_add, Int.natCast_one, Int.natCast_zero, List.flatMap_nil, List.map_nil, List.append_nil, List.nil_append])
   rfl
  repeat' (first | refine zqj ?_ | ((first | refine zqh fun K hK => ?_ | refine zqe (by decide +kernel) fun K hK => ?_ | refine zqr fun K hK => ?_ | refine zqq (by decide +kernel) fun K hK => ?_); (simp (disch := omega) only [go_sem, Nat.reduceBEq, Nat.reduceBeqDiff, Nat.reduceEqDiff, ↓reduceIte, reduceCtorEq, Nat.reduceAdd, Nat.reduceMul, Nat.reduceLeDiff, Nat.reduceLT, Int.reduceLT, Int.reduceLE, Int.reduceEq, q5, q7, qH2])) | ((first | refine zqd _ rfl (fun hc => ?_) (fun hc => ?_) | refine zqm _ rfl (fun hc => ?_) (fun hc => ?_)) <;> (first | (cases hc; done) | ((try simp only [boolS] at hc); (try (exfalso; omega))))) | refine zqa ?_ | refine zqi ?_ | refine zqb ?_ | refine zqg ?_ | refine zqc ?_ | refine zqk ?_ | refine zql ?_ | refine zqn ?_ | refine zqv ?_ | refine zqw ?_ | refine zqx ?_ | refine zqy ?_ | refine zqz ?_ | refine zqza rfl ?_ | refine zqzb ?_ | refine zqp ?_ | refine zqo ?_ | refine zqu (by (simp (disch := omega) only [go_sem, Nat.reduceBEq, Nat.reduceBeqDiff, Nat.reduceEqDiff, ↓reduceIte, reduceCtorEq, Nat.reduceAdd, Nat.reduceLeDiff, Nat.reduceLT, q5, q7, qH2]); rfl) rfl ?_ | (refine hK _ ?_; clear hK K) | (refine zqf (fun hb => ?_) (fun hb => ?_) <;> (have hb2 := hb; try simp only [boolS] at hb2) <;> ((first | have hb3 : (_ : Bool) = _ := hb2 | have hb3 := eq_false hb2 | have hb3 := eq_true hb2); (simp (disch := omega) only [go_sem, Nat.reduceBEq, Nat.reduceBeqDiff, Nat.reduceEqDiff, ↓reduceIte, reduceCtorEq, Nat.reduceAdd, Nat.reduceMul, Nat.reduceLeDiff, Nat.reduceLT, Int.reduceLT, Int.reduceLE, Int.reduceEq, hb, hb3, q5, q7, qH2]); clear hb hb3; (try (exfalso; omega)))) | (exfalso; omega))
  refine fin_of (sealD_rowAgg (l := []) (f := fun i : Idv => cellsId i) 1 ?_ isAggT23 sizeT23 (fun _ => rfl) (fun _ => rfl))
  (simp (disch := omega) only [go_sem, Nat.reduceBEq, Nat.reduceBeqDiff, Nat.reduceEqDiff, ↓reduceIte, reduceCtorEq, Nat.reduceAdd, Nat.reduceMul, Nat.reduceLeDiff, Nat.reduceLT, Int.reduceLT, Int.reduceLE, Int.reduceEq, q5, q7, qH2])
  rfl
 ·rw [encWay_some h0] at hw
  have hpos := List.length_pos_iff.2 h0
  have hal : (ancR id t).length = (wayT id t).length - 1 := by unfold ancR; simp
  have hag : ∀ k (h : k < (ancR id t).length), (ancR id t)[k] = ((wayT id t)[(wayT id t).length - 2 - k]'(by omega)).id := fun k h => by
   have h1 : k < (wayT id t).length - 1 := by omega
   have h2 := List.getElem_reverse (l := (wayT id t).dropLast.map T.id) (i := k) (by simp; omega)
   refine h2.trans ?_
   simp only [List.getElem_map, List.getElem_dropLast, List.length_map, List.length_dropLast]
   congr 1
  skip
  repeat' (first | refine zqj ?_ | ((first | refine zqh fun K hK => ?_ | refine zqe (by decide +kernel) fun K hK => ?_ | refine zqr fun K hK => ?_ | refine zqq (by decide +kernel) fun K hK => ?_ | refine zqs (hw) ?_ | refine zqt (hw) ?_); (simp (disch := omega) only [go_sem, Nat.reduceBEq, Nat.reduceBeqDiff, Nat.reduceEqDiff, ↓reduceIte, reduceCtorEq, Nat.reduceAdd, Nat.reduceMul, Nat.reduceLeDiff, Nat.reduceLT, Int.reduceLT, Int.reduceLE, Int.reduceEq, cellsId])) | ((first | refine zqd _ rfl (fun hc => ?_) (fun hc => ?_) | refine zqm _ rfl (fun hc => ?_) (fun hc => ?_)) <;> (first | (cases hc; done) | ((try simp only [boolS] at hc); (try (exfalso; omega))))) | refine zqa ?_ | refine zqi ?_ | refine zqb ?_ | refine zqg ?_ | refine zqc ?_ | refine zqk ?_ | refine zql ?_ | refine zqn ?_ | refine zqv ?_ | refine zqw ?_ | refine zqx ?_ | refine zqy ?_ | refine zqz ?_ | refine zqza rfl ?_ | refine zqzb ?_ | refine zqp ?_ | refine zqo ?_ | refine zqu (by (simp (disch := omega) only [go_sem, Nat.reduceBEq, Nat.reduceBeqDiff, Nat.reduceEqDiff, ↓reduceIte, reduceCtorEq, Nat.reduceAdd, Nat.reduceLeDiff, Nat.reduceLT, cellsId]); rfl) rfl ?_ | (refine hK _ ?_; clear hK K) | (refine zqf (fun hb => ?_) (fun hb => ?_) <;> (have hb2 := hb; try simp only [boolS] at hb2) <;> ((first | have hb3 : (_ : Bool) = _ := hb2 | have hb3 := eq_false hb2 | have hb3 := eq_true hb2); (simp (disch := omega) only [go_sem, Nat.reduceBEq, Nat.reduceBeqDiff, Nat.reduceEqDiff, ↓reduceIte, reduceCtorEq, Nat.reduceAdd, Nat.reduceMul, Nat.reduceLeDiff, Nat.reduceLT, Int.reduceLT, Int.reduceLE, Int.reduceEq, hb, hb3, cellsId]); clear hb hb3; (try (exfalso; omega)))) | (exfalso; omega))
  (refine zqzc (fun mz st => ∃ (k : _), mz = (wayT id t).length - k ∧ st.t 5 = .osl 2 k ∧ st.t 6 = .rsl true 8 ((wayT id t).map encU) ∧ st.t 7 = .int .i64 ((wayT id t).length - 2 - k) ∧ st.H 2 = some (.row 23 k (((ancR id t).take k).flatMap cellsId)) ∧ (k ≤ (ancR id t).length) ∧ (2 ≤ st.nx)) ?_ ?_); rotate_left; (rintro mz st ⟨k, rfl, q5, q6, q7, qH2, qp0, qp1⟩); rotate_left
  ·(refine ⟨_, 0, rfl, ?_⟩); (simp (disch := omega) only [go_sem, Nat.reduceBEq, Nat.reduceBeqDiff, Nat.reduceEqDiff, ↓reduceIte, reduceCtorEq, Nat.reduceAdd, Nat.reduceMul, Nat.reduceLeDiff, Nat.reduceLT, Int.reduceLT, Int.reduceLE, Int.reduceEq, true_and, and_true, and_self, Int.natCast_add, Int.natCast_one, Int.natCast_zero, List.flatMap_nil, List.map_nil, List.append_nil, List.nil_append])
   omega
  by_cases hk : k < (ancR id t).length
  ·have hidx : (((wayT id t).length : Int) - 2 - k).toNat = (wayT id t).length - 2 - k := by omega
   have hag := hag k hk
   have htk := List.take_succ_eq_append_getElem hk
   rw [hag] at htk
   repeat' (first | refine zqj ?_ | ((first | refine zqh fun K hK => ?_ | refine zqe (by decide +kernel) fun K hK => ?_ | refine zqr fun K hK => ?_ | refine zqq (by decide +kernel) fun K hK => ?_); (simp (disch := omega) only [go_sem, Nat.reduceBEq, Nat.reduceBeqDiff, Nat.reduceEqDiff, ↓reduceIte, reduceCtorEq, Nat.reduceAdd, Nat.reduceMul, Nat.reduceLeDiff, Nat.reduceLT, Int.reduceLT, Int.reduceLE, Int.reduceEq, q5, q6, q7, qH2, hidx, cellsId])) | ((first | refine zqd _ rfl (fun hc => ?_) (fun hc => ?_) | refine zqm _ rfl (fun hc => ?_) (fun hc => ?_)) <;> (first | (cases hc; done) | ((try simp only [boolS] at hc); (try (exfalso; omega))))) | refine zqa ?_ | refine zqi ?_ | refine zqb ?_ | refine zqg ?_ | refine zqc ?_ | refine zqk ?_ | refine zql ?_ | refine zqn ?_ | refine zqv ?_ | refine zqw ?_ | refine zqx ?_ | refine zqy ?_ | refine zqz ?_ | refine zqza rfl ?_ | refine zqzb ?_ | refine zqp ?_ | refine zqo ?_ | refine zqu (by (simp (disch := omega) only [go_sem, Nat.reduceBEq, Nat.reduceBeqDiff, Nat.reduceEqDiff, ↓reduceIte, reduceCtorEq, Nat.reduceAdd, Nat.reduceLeDiff, Nat.reduceLT, q5, q6, q7, qH2, hidx, cellsId]); rfl) rfl ?_ | (refine hK _ ?_; clear hK K) | (refine zqf (fun hb => ?_) (fun hb => ?_) <;> (have hb2 := hb; try simp only [boolS] at hb2) <;> ((first | have hb3 : (_ : Bool) = _ := hb2 | have hb3 := eq_false hb2 | have hb3 := eq_true hb2); (simp (disch := omega) only [go_sem, Nat.reduceBEq, Nat.reduceBeqDiff, Nat.reduceEqDiff, ↓reduceIte, reduceCtorEq, Nat.reduceAdd, Nat.reduceMul, Nat.reduceLeDiff, Nat.reduceLT, Int.reduceLT, Int.reduceLE, Int.reduceEq, hb, hb3, q5, q6, q7, qH2, hidx, cellsId]); clear hb hb3; (try (exfalso; omega)))) | (exfalso; omega))
   (refine Exists.intro _ (And.intro ?_ ⟨k + 1, rfl, ?_⟩)); rotate_left; (simp (disch := omega) only [go_sem, Nat.reduceBEq, Nat.reduceBeqDiff, Nat.reduceEqDiff, ↓reduceIte, reduceCtorEq, Nat.reduceAdd, Nat.reduceMul, Nat.reduceLeDiff, Nat.reduceLT, Int.reduceLT, Int.reduceLE, Int.reduceEq, q5, q6, q7, qH2, true_and, and_true, and_self, Int.natCast_add, Int.natCast_one, Int.natCast_zero, List.flatMap_append, List.flatMap_cons, List.flatMap_nil, List.map_append, List.map_cons, List.map_nil, List.append_nil, List.cons_append, List.nil_append, htk, hidx, cellsId]); rotate_left
   ·omega
   ·refine ⟨by omega, by omega, by omega⟩
  ·repeat' (first | refine zqj ?_ | ((first | refine zqh fun K hK => ?_ | refine zqe (by decide +kernel) fun K hK => ?_ | refine zqr fun K hK => ?_ | refine zqq (by decide +kernel) fun K hK => ?_); (simp (disch := omega) only [go_sem, Nat.reduceBEq, Nat.reduceBeqDiff, Nat.reduceEqDiff, ↓reduceIte, reduceCtorEq, Nat.reduceAdd, Nat.reduceMul, Nat.reduceLeDiff, Nat.reduceLT, Int.reduceLT, Int.reduceLE, Int.reduceEq, q5, q6, q7, qH2])) | ((first | refine zqd _ rfl (fun hc => ?_) (fun hc => ?_) | refine zqm _ rfl (fun hc => ?_) (fun hc => ?_)) <;> (first | (cases hc; done) | ((try simp only [boolS] at hc); (try (exfalso; omega))))) | refine zqa ?_ | refine zqi ?_ | refine zqb ?_ | refine zqg ?_ | refine zqc ?_ | refine zqk ?_ | refine zql ?_ | refine zqn ?_ | refine zqv ?_ | refine zqw ?_ | refine zqx ?_ | refine zqy ?_ | refine zqz ?_ | refine zqza rfl ?_ | refine zqzb ?_ | refine zqp ?_ | refine zqo ?_ | refine zqu (by (simp (disch := omega) only [go_sem, Nat.reduceBEq, Nat.reduceBeqDiff, Nat.reduceEqDiff, ↓reduceIte, reduceCtorEq, Nat.reduceAdd, Nat.reduceLeDiff, Nat.reduceLT, q5, q6, q7, qH2]); rfl) rfl ?_ | (refine hK _ ?_; clear hK K) | (refine zqf (fun hb => ?_) (fun hb => ?_) <;> (have hb2 := hb; try simp only [boolS] at hb2) <;> ((first | have hb3 : (_ : Bool) = _ := hb2 | have hb3 := eq_false hb2 | have hb3 := eq_true hb2); (simp (disch := omega) only [go_sem, Nat.reduceBEq, Nat.reduceBeqDiff, Nat.reduceEqDiff, ↓reduceIte, reduceCtorEq, Nat.reduceAdd, Nat.reduceMul, Nat.reduceLeDiff, Nat.reduceLT, Int.reduceLT, Int.reduceLE, Int.reduceEq, hb, hb3, q5, q6, q7, qH2]); clear hb hb3; (try (exfalso; omega)))) | (exfalso; omega))
   have hk2 : k = (ancR id t).length := by omega
   subst hk2
   rw [List.take_length] at qH2
   exact fin_of (sealD_rowAgg 1 (by (simp (disch := omega) only [go_sem, Nat.reduceBEq, Nat.reduceBeqDiff, Nat.reduceEqDiff, ↓reduceIte, reduceCtorEq, Nat.reduceAdd, Nat.reduceMul, Nat.reduceLeDiff, Nat.reduceLT, Int.reduceLT, Int.reduceLE, Int.reduceEq, q5, q6, q7, qH2])) isAggT23 sizeT23 (fun _ => rfl) (fun _ => rfl))
end Go.Proofs.YtkhjpcmpljpmjaaGreatDoor
