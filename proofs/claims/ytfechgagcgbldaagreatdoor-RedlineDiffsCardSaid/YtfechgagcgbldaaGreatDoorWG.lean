import Derived.Test.YtfechgagcgbldaaGreatDoorWF
/-
 Lemmas of the claim. No condition but those that each names.
-/
set_option linter.unusedSimpArgs false
set_option linter.unusedVariables false
set_option maxRecDepth 100000
set_option maxHeartbeats 8000000
set_option linter.unusedSectionVars false
namespace Go.Proofs.YtfechgagcgbldaaGreatDoor
open _root_.Go.Proofs.Tryz
section
open Abs Facts
attribute [local irreducible] awp
theorem Lis.sel_stop (l : List Int) (n : Nat) (h : Lis.most l <= (Lis.sel l n).length) : ∀ k, Lis.sel l (n + k) = Lis.sel l n
 | 0 => rfl
 | k + 1 => by
  have ih := Lis.sel_stop l n h k
  rw [<- Nat.add_assoc, Lis.sel_succ, ih]
  unfold Lis.sel1
  rw [if_neg (by omega)]
theorem Lis.sel_le_most (l : List Int) : ∀ n, ((Lis.sel l n).length : Int) <= Lis.most l
 | 0 => by have := Lis.most_bd l; simp [Lis.sel]; omega
 | n + 1 => by
  have ih := Lis.sel_le_most l n
  rw [Lis.sel_succ]; unfold Lis.sel1
  split
  ·simp; omega
  ·exact ih
theorem Lis.foldr_max (l : List Int) : ∀ (m : Int), l.foldl max m = max m (l.foldr max 0) \/ m < 0 := by
 induction l with
 | nil => intro m; simp; omega
 | cons x xs ih =>
  intro m
  simp only [List.foldl_cons, List.foldr_cons]
  rcases ih (max m x) with h | h
  ·rw [h]; omega
  ·omega
theorem Lis.take_most (l : List Int) (i : Nat) (hi : i < l.length) : (l.take (i + 1)).foldl max 0 = max ((l.take i).foldl max 0) (l[i]) := by
 rw [List.take_succ_eq_append_getElem hi, List.foldl_append]; rfl
set_option maxHeartbeats 2000000 in
theorem pc13 (l : List Int) (hl : l.length <= maxLen) : PC prog 83 [z44 l] (z44 ((Lis.lis l).map fun (n : Nat) => (n : Int))) := by
 unfold maxLen at hl
 refine z2f 2 (by simp only [pureD.pureL, z40, Bool.and_self]) (z40 _) (z23 [10] func83 rfl (by decide +kernel) rfl ?_)
 show awp _ _ (Code.seq _ _) _ _
 (refine zqh fun K hK => ?_); (simp only [go_sem, Nat.reduceBEq, Nat.reduceBeqDiff, Nat.reduceEqDiff, ↓reduceIte, reduceCtorEq, Nat.reduceAdd, Nat.reduceMul, Nat.reduceLeDiff, Nat.reduceLT, Int.reduceLT, Int.reduceLE, Int.reduceEq]); (refine hK _ ?_); (clear hK K)
 repeat refine zqj ?_
 (refine zqh fun K hK => ?_); (simp only [go_sem, Nat.reduceBEq, Nat.reduceBeqDiff, Nat.reduceEqDiff, ↓reduceIte, reduceCtorEq, Nat.reduceAdd, Nat.reduceMul, Nat.reduceLeDiff, Nat.reduceLT, Int.reduceLT, Int.reduceLE, Int.reduceEq, z44]); (refine hK _ ?_); (clear hK K)
 repeat refine zqj ?_
 (refine zqh fun K hK => ?_); (simp only [go_sem, Nat.reduceBEq, Nat.reduceBeqDiff, Nat.reduceEqDiff, ↓reduceIte, reduceCtorEq, Nat.reduceAdd, Nat.reduceMul, Nat.reduceLeDiff, Nat.reduceLT, Int.reduceLT, Int.reduceLE, Int.reduceEq, z44]); (refine hK _ ?_); (clear hK K)
 refine z0u fun K hK => ?_
 (refine zqm _ rfl (fun hc => ?_) (fun hc => ?_)) <;> (simp only [z03] at hc)
 ·(refine zqh fun K hK => ?_); (simp only [go_sem, Nat.reduceBEq, Nat.reduceBeqDiff, Nat.reduceEqDiff, ↓reduceIte, reduceCtorEq, Nat.reduceAdd, Nat.reduceMul, Nat.reduceLeDiff, Nat.reduceLT, Int.reduceLT, Int.reduceLE, Int.reduceEq]); (refine hK _ ?_); (clear hK K)
  (refine zqn ?_); (refine Exists.intro _ (And.intro rfl ?_))
  refine zj0 0 rfl z2q z4m (by simp) rfl ?_
  simp only [Lis.lis]; rw [if_pos (by omega)]; rfl
 refine zqk (hK _ ?_); clear hK K
 repeat refine zqj ?_
 have g1 : (0 : Int) <= (l.length : Int) := by omega
 have g2 : l.length * 8 <= 140737488355328 := by omega
 have g3 : (l.length : Int) <= 9223372036854775807 := by omega
 (refine zqh fun K hK => ?_); (simp only [go_sem, Nat.reduceBEq, Nat.reduceBeqDiff, Nat.reduceEqDiff, ↓reduceIte, reduceCtorEq, Nat.reduceAdd, Nat.reduceMul, Nat.reduceLeDiff, Nat.reduceLT, Int.reduceLT, Int.reduceLE, Int.reduceEq, z44, g2, g3]); (refine hK _ ?_); (clear hK K)
 have w1 : IntKind.i64.wrap ((l.length : Int) - 1) = (l.length : Int) - 1 := z2r (by omega)
 refine z0u fun K hK => ?_
 repeat refine zqj ?_
 (refine zqh fun K hK => ?_); (simp only [go_sem, Nat.reduceBEq, Nat.reduceBeqDiff, Nat.reduceEqDiff, ↓reduceIte, reduceCtorEq, Nat.reduceAdd, Nat.reduceMul, Nat.reduceLeDiff, Nat.reduceLT, Int.reduceLT, Int.reduceLE, Int.reduceEq, z44, w1, zbj (D.int .i64) 0 l.length]); (refine hK _ ?_); (clear hK K)
 refine zqi (z3p (fun n st => ∃ cs : List Int, n <= l.length /\ st.t 0 = z44 l /\ st.t 3 = .osl 0 0 /\ st.H 0 = some (.row 3 0 []) /\ st.t 4 = .osl 1 l.length /\ st.H 1 = some (.row 3 l.length (cs.map (D.int .i64))) /\ cs.length = l.length /\
   cs.drop n = Lis.rows (l.drop n) /\ st.t 5 = .int .i64 ((n : Int) - 1) /\ st.nx = 2) l.length ?_ ?_)
 ·exact ⟨List.replicate l.length 0, Nat.le_refl _, rfl, rfl, rfl, rfl, rfl, by simp, by simp [Lis.rows], rfl, rfl⟩
 rintro n st ⟨cs, hn, h0, h3, hH0, h4, hH, hcl, hcd, h5, hnx⟩
 repeat refine zqj ?_
 (refine zqh fun K hK => ?_); (simp only [go_sem, Nat.reduceBEq, Nat.reduceBeqDiff, Nat.reduceEqDiff, ↓reduceIte, reduceCtorEq, Nat.reduceAdd, Nat.reduceMul, Nat.reduceLeDiff, Nat.reduceLT, Int.reduceLT, Int.reduceLE, Int.reduceEq, h5]); (refine hK _ ?_); (clear hK K)
 refine z0u fun K2 hK2 => ?_
 (refine zqm _ rfl (fun hc => ?_) (fun hc => ?_)) <;> (simp only [z03] at hc)
 ·obtain ⟨j, rfl⟩ : ∃ j, n = j + 1 := ⟨n - 1, by omega⟩
  have h5' : st.t 5 = .int .i64 (j : Int) := by rw [h5]; congr 1; omega
  refine zqk (hK2 _ ?_); clear hK2 K2 h5
  repeat refine zqj ?_
  refine z0u fun K2 hK2 => ?_
  refine zqi ?_
  repeat refine zqj ?_
  have hj : (j : Int) < (l.length : Int) := by omega
  have hj2 : j + 1 <= l.length := by omega
  (refine zqh fun K hK => ?_); (simp only [go_sem, Nat.reduceBEq, Nat.reduceBeqDiff, Nat.reduceEqDiff, ↓reduceIte, reduceCtorEq, Nat.reduceAdd, Nat.reduceMul, Nat.reduceLeDiff, Nat.reduceLT, Int.reduceLT, Int.reduceLE, Int.reduceEq, h4, h5', hH, hj, hcl, hj2, z98]); (refine hK _ ?_); (clear hK K)
  repeat refine zqj ?_
  have wj : IntKind.i64.wrap ((j : Int) + 1) = ((j + 1 + 0 : Nat) : Int) := by rw [z2r (by omega)]; omega
  (refine zqh fun K hK => ?_); (simp only [go_sem, Nat.reduceBEq, Nat.reduceBeqDiff, Nat.reduceEqDiff, ↓reduceIte, reduceCtorEq, Nat.reduceAdd, Nat.reduceMul, Nat.reduceLeDiff, Nat.reduceLT, Int.reduceLT, Int.reduceLE, Int.reduceEq, h5', wj]); (refine hK _ ?_); (clear hK K)
  refine zqi (z3p (fun m st => ∃ (k : Nat) (cs : List Int), m = l.length - (j + 1 + k) /\ j + 1 + k <= l.length /\ st.t 0 = z44 l /\ st.t 3 = .osl 0 0 /\ st.H 0 = some (.row 3 0 []) /\ st.t 4 = .osl 1 l.length /\ st.H 1 = some (.row 3 l.length (cs.map (D.int .i64))) /\ cs.length = l.length /\
   cs.drop (j + 1) = Lis.rows (l.drop (j + 1)) /\ st.t 5 = .int .i64 (j : Int) /\ st.t 6 = .int .i64 ((j + 1 + k : Nat) : Int) /\ cs[j]? = some (Lis.inner l j k) /\ 1 <= Lis.inner l j k /\ Lis.inner l j k <= l.length /\ st.nx = 2) (l.length - (j + 1)) ?_ ?_)
  ·refine ⟨0, cs.set j 1, rfl, hj2, h0, h3, hH0, h4, rfl, by simpa using hcl, ?_, h5', rfl, ?_, by simp [Lis.inner_zero], by simp [Lis.inner_zero]; omega, hnx⟩
   ·rw [List.drop_set_of_lt (by omega)]; exact hcd
   ·have : j < cs.length := by omega
    simp [Lis.inner_zero, this]
  clear hH0 hH hcd hcl h0 h3 h4 hnx h5' hn
  rintro m st ⟨k, cs, rfl, O, h0, h3, hH0, h4, hH, hcl, hcd, h5, h6, hcj, hi1, hi2, hnx⟩
  repeat refine zqj ?_
  (refine zqh fun K hK => ?_); (simp only [go_sem, Nat.reduceBEq, Nat.reduceBeqDiff, Nat.reduceEqDiff, ↓reduceIte, reduceCtorEq, Nat.reduceAdd, Nat.reduceMul, Nat.reduceLeDiff, Nat.reduceLT, Int.reduceLT, Int.reduceLE, Int.reduceEq, h6, h0, z44]); (refine hK _ ?_); (clear hK K)
  refine z0u fun K4 hK4 => ?_
  (refine zqm _ rfl (fun hc => ?_) (fun hc => ?_)) <;> (simp only [z03] at hc)
  ·have hk' : j + 1 + k < l.length := by omega
   refine zqk (hK4 _ ?_); clear hK4 K4
   refine z0u fun K4 hK4 => ?_
   refine zqi ?_
   repeat refine zqj ?_
   have i1 := z2t (D.int .i64) l (j + 1 + k) hk'
   have i2 := z2t (D.int .i64) l j (by omega)
   have hin := Lis.inner_succ l j k hk' cs hcl hcd
   have hle := Lis.rows_get_le l (j + 1 + k) cs hcl (j + 1) hcd (by omega) hk'
   have wk : IntKind.i64.wrap (cs[j + 1 + k] + 1) = cs[j + 1 + k] + 1 := z2r (by omega)
   have e1 : cs[j + 1 + k]? = some cs[j + 1 + k] := List.getElem?_eq_getElem (by omega)
   have hkn : ((j + 1 + k : Nat) : Int) < (l.length : Int) := by omega
   have tail : ∀ st' : St, (∃ cs' : List Int, st'.t 0 = z44 l /\ st'.t 3 = .osl 0 0 /\ st'.H 0 = some (.row 3 0 []) /\ st'.t 4 = .osl 1 l.length /\ st'.H 1 = some (.row 3 l.length (cs'.map (D.int .i64))) /\ cs'.length = l.length /\
     cs'.drop (j + 1) = Lis.rows (l.drop (j + 1)) /\ st'.t 5 = .int .i64 (j : Int) /\ st'.t 6 = .int .i64 ((j + 1 + k : Nat) : Int) /\ cs'[j]? = some (Lis.inner l j (k + 1)) /\ 1 <= Lis.inner l j (k + 1) /\ st'.nx = 2) -> K4 st' := by
    rintro st' ⟨cs', h0, h3, hH0, h4, hH, hcl, hcd, h5, h6, hcj, hi1, hnx⟩
    refine hK4 _ ?_
    have wk2 : IntKind.i64.wrap (((j + 1 + k : Nat) : Int) + 1) = ((j + 1 + (k + 1) : Nat) : Int) := by rw [z2r (by omega)]; omega
    (refine z29 ?_); (simp only [go_sem, Nat.reduceBEq, Nat.reduceBeqDiff, Nat.reduceEqDiff, ↓reduceIte, reduceCtorEq, Nat.reduceAdd, Nat.reduceMul, Nat.reduceLeDiff, Nat.reduceLT, Int.reduceLT, Int.reduceLE, Int.reduceEq, h6, wk2])
    exact ⟨l.length - (j + 1 + (k + 1)), by omega, k + 1, cs', rfl, by omega, h0, h3, hH0, h4, hH, hcl, hcd, h5, rfl, hcj, hi1, Lis.inner_le l j (k + 1) (by omega), hnx⟩
   by_cases c1 : l[j] < l[j + 1 + k]
   ·by_cases c2 : Lis.inner l j k < cs[j + 1 + k] + 1
    ·have e2 : Lis.inner l j (k + 1) = cs[j + 1 + k] + 1 := by rw [hin]; unfold Lis.upd1; rw [if_pos c1]; show max _ _ = _; omega
     (refine zqe (by decide +kernel) fun K hK => ?_); (simp only [go_sem, Nat.reduceBEq, Nat.reduceBeqDiff, Nat.reduceEqDiff, ↓reduceIte, reduceCtorEq, Nat.reduceAdd, Nat.reduceMul, Nat.reduceLeDiff, Nat.reduceLT, Int.reduceLT, Int.reduceLE, Int.reduceEq, h0, h5, h6, i1, i2, z44, c1, c2, h4, hH, hkn, hcl, e1, hcj, wk, hj, hj2]); (refine hK _ ?_); (clear hK K)
     refine zqm true rfl (fun _ => ?_) (fun hc => (by cases hc))
     (refine z29 ?_); (simp only [go_sem, Nat.reduceBEq, Nat.reduceBeqDiff, Nat.reduceEqDiff, ↓reduceIte, reduceCtorEq, Nat.reduceAdd, Nat.reduceMul, Nat.reduceLeDiff, Nat.reduceLT, Int.reduceLT, Int.reduceLE, Int.reduceEq, h4, h5, h6, hH, hj, hkn, hcl, hj2, e1, hcj, wk, z98])
     refine (show K4 _ from tail _ ⟨cs.set j (cs[j + 1 + k] + 1), h0, h3, hH0, h4, rfl, by simpa using hcl, ?_, h5, h6, ?_, by omega, hnx⟩)
     ·rw [List.drop_set_of_lt (by omega)]; exact hcd
     ·rw [e2, List.getElem?_set_self (by omega)]
    ·have e2 : Lis.inner l j (k + 1) = Lis.inner l j k := by rw [hin]; unfold Lis.upd1; rw [if_pos c1]; show max _ _ = _; omega
     (refine zqe (by decide +kernel) fun K hK => ?_); (simp only [go_sem, Nat.reduceBEq, Nat.reduceBeqDiff, Nat.reduceEqDiff, ↓reduceIte, reduceCtorEq, Nat.reduceAdd, Nat.reduceMul, Nat.reduceLeDiff, Nat.reduceLT, Int.reduceLT, Int.reduceLE, Int.reduceEq, h0, h5, h6, i1, i2, z44, c1, c2, h4, hH, hkn, hcl, e1, hcj, wk, hj, hj2]); (refine hK _ ?_); (clear hK K)
     refine zqm false rfl (fun hc => (by cases hc)) (fun _ => ?_)
     exact zqk (tail _ ⟨cs, h0, h3, hH0, h4, hH, hcl, hcd, h5, h6, by rw [e2]; exact hcj, by omega, hnx⟩)
   ·have e2 : Lis.inner l j (k + 1) = Lis.inner l j k := by rw [hin]; unfold Lis.upd1; rw [if_neg c1]
    (refine zqe (by decide +kernel) fun K hK => ?_); (simp only [go_sem, Nat.reduceBEq, Nat.reduceBeqDiff, Nat.reduceEqDiff, ↓reduceIte, reduceCtorEq, Nat.reduceAdd, Nat.reduceMul, Nat.reduceLeDiff, Nat.reduceLT, Int.reduceLT, Int.reduceLE, Int.reduceEq, h0, h5, h6, i1, i2, z44, c1]); (refine hK _ ?_); (clear hK K)
    refine zqm false rfl (fun hc => (by cases hc)) (fun _ => ?_)
    exact zqk (tail _ ⟨cs, h0, h3, hH0, h4, hH, hcl, hcd, h5, h6, by rw [e2]; exact hcj, by omega, hnx⟩)
  ·refine zql ?_
   have hkk : j + 1 + k = l.length := by omega
   refine (show K2 _ from hK2 _ ?_)
   have wj2 : IntKind.i64.wrap ((j : Int) - 1) = (j : Int) - 1 := z2r (by omega)
   (refine z29 ?_); (simp only [go_sem, Nat.reduceBEq, Nat.reduceBeqDiff, Nat.reduceEqDiff, ↓reduceIte, reduceCtorEq, Nat.reduceAdd, Nat.reduceMul, Nat.reduceLeDiff, Nat.reduceLT, Int.reduceLT, Int.reduceLE, Int.reduceEq, h5, wj2])
   have hall := Lis.inner_all l j (by omega)
   have hk0 : l.length - (j + 1) = k := by omega
   rw [hk0] at hall
   refine ⟨j, by omega, cs, by omega, h0, h3, hH0, h4, hH, hcl, ?_, rfl, hnx⟩
   rw [hall, List.drop_eq_getElem_cons (by omega), hcd]
   congr 1
   rw [List.getElem?_eq_getElem (by omega)] at hcj
   exact Option.some.inj hcj
 ·refine zql ?_
  refine (show K _ from hK _ ?_)
  obtain rfl : n = 0 := by omega
  simp only [List.drop_zero] at hcd
  subst hcd
  have hrl := Lis.rows_length l
  (refine zqh fun K hK => ?_); (simp only [go_sem, Nat.reduceBEq, Nat.reduceBeqDiff, Nat.reduceEqDiff, ↓reduceIte, reduceCtorEq, Nat.reduceAdd, Nat.reduceMul, Nat.reduceLeDiff, Nat.reduceLT, Int.reduceLT, Int.reduceLE, Int.reduceEq]); (refine hK _ ?_); (clear hK K)
  repeat refine zqj ?_
  (refine zqh fun K hK => ?_); (simp only [go_sem, Nat.reduceBEq, Nat.reduceBeqDiff, Nat.reduceEqDiff, ↓reduceIte, reduceCtorEq, Nat.reduceAdd, Nat.reduceMul, Nat.reduceLeDiff, Nat.reduceLT, Int.reduceLT, Int.reduceLE, Int.reduceEq]); (refine hK _ ?_); (clear hK K)
  refine z0u fun K3 hK3 => ?_
  refine zqi (z3p (fun n st => ∃ i : Nat, n = l.length - i /\ i <= l.length /\ st.t 0 = z44 l /\ st.t 3 = .osl 0 0 /\ st.H 0 = some (.row 3 0 []) /\ st.t 4 = .osl 1 l.length /\ st.H 1 = some (.row 3 l.length ((Lis.rows l).map (D.int .i64))) /\
   st.t 7 = .int .i64 (((Lis.rows l).take i).foldl max 0) /\ st.t 8 = .int .i64 i /\ st.nx = 2) l.length ?_ ?_)
  ·exact ⟨0, by omega, by omega, h0, h3, hH0, h4, hH, rfl, rfl, hnx⟩
  clear h0 h3 hH0 h4 hH h5 hnx
  rintro n st ⟨i, rfl, hi, h0, h3, hH0, h4, hH, h7, h8, hnx⟩
  repeat refine zqj ?_
  (refine zqh fun K hK => ?_); (simp only [go_sem, Nat.reduceBEq, Nat.reduceBeqDiff, Nat.reduceEqDiff, ↓reduceIte, reduceCtorEq, Nat.reduceAdd, Nat.reduceMul, Nat.reduceLeDiff, Nat.reduceLT, Int.reduceLT, Int.reduceLE, Int.reduceEq, h8, h0, z44]); (refine hK _ ?_); (clear hK K)
  refine z0u fun K4 hK4 => ?_
  (refine zqm _ rfl (fun hc => ?_) (fun hc => ?_)) <;> (simp only [z03] at hc)
  ·have hi' : i < l.length := by omega
   refine zqk (hK4 _ ?_)
   refine z0u fun K5 hK5 => ?_
   refine zqi ?_
   repeat refine zqj ?_
   have hri : (Lis.rows l)[i]? = some ((Lis.rows l)[i]'(by omega)) := List.getElem?_eq_getElem (by omega)
   have hin : (i : Int) < (l.length : Int) := by omega
   have htk := Lis.take_most (Lis.rows l) i (by omega)
   have wi : IntKind.i64.wrap ((i : Int) + 1) = ((i + 1 : Nat) : Int) := by rw [z2r (by omega)]; omega
   (refine zqh fun K hK => ?_); (simp only [go_sem, Nat.reduceBEq, Nat.reduceBeqDiff, Nat.reduceEqDiff, ↓reduceIte, reduceCtorEq, Nat.reduceAdd, Nat.reduceMul, Nat.reduceLeDiff, Nat.reduceLT, Int.reduceLT, Int.reduceLE, Int.reduceEq, h8, h4, hH, h7, hin, hrl, hri, hi']); (refine hK _ ?_); (clear hK K)
   (refine zqm _ rfl (fun hc => ?_) (fun hc => ?_)) <;> (simp only [z03] at hc)
   ·(refine z29 ?_); (simp only [go_sem, Nat.reduceBEq, Nat.reduceBeqDiff, Nat.reduceEqDiff, ↓reduceIte, reduceCtorEq, Nat.reduceAdd, Nat.reduceMul, Nat.reduceLeDiff, Nat.reduceLT, Int.reduceLT, Int.reduceLE, Int.reduceEq, h8, h4, hH, h7, hin, hrl, hri, hi'])
    refine (show K5 _ from hK5 _ ?_)
    (refine z29 ?_); (simp only [go_sem, Nat.reduceBEq, Nat.reduceBeqDiff, Nat.reduceEqDiff, ↓reduceIte, reduceCtorEq, Nat.reduceAdd, Nat.reduceMul, Nat.reduceLeDiff, Nat.reduceLT, Int.reduceLT, Int.reduceLE, Int.reduceEq, h8, wi])
    exact ⟨l.length - (i + 1), by omega, i + 1, rfl, by omega, h0, h3, hH0, h4, hH, by rw [htk, Int.max_eq_right (by omega)]; rfl, rfl, hnx⟩
   ·refine zqk (hK5 _ ?_)
    (refine z29 ?_); (simp only [go_sem, Nat.reduceBEq, Nat.reduceBeqDiff, Nat.reduceEqDiff, ↓reduceIte, reduceCtorEq, Nat.reduceAdd, Nat.reduceMul, Nat.reduceLeDiff, Nat.reduceLT, Int.reduceLT, Int.reduceLE, Int.reduceEq, h8, wi])
    exact ⟨l.length - (i + 1), by omega, i + 1, rfl, by omega, h0, h3, hH0, h4, hH, by rw [htk, Int.max_eq_left (by omega)]; exact h7, rfl, hnx⟩
  ·refine zql ?_
   show K3 _
   refine hK3 _ ?_
   obtain rfl : i = l.length := by omega
   have hm : ((Lis.rows l).take l.length).foldl max 0 = Lis.most l := by
    rw [List.take_of_length_le (by omega)]
    rcases Lis.foldr_max (Lis.rows l) 0 with h | h
    ·rw [h]; have := Lis.most_bd l; unfold Lis.most at this ⊢; omega
    ·omega
   rw [hm] at h7
   repeat refine zqj ?_
   (refine zqh fun K hK => ?_); (simp only [go_sem, Nat.reduceBEq, Nat.reduceBeqDiff, Nat.reduceEqDiff, ↓reduceIte, reduceCtorEq, Nat.reduceAdd, Nat.reduceMul, Nat.reduceLeDiff, Nat.reduceLT, Int.reduceLT, Int.reduceLE, Int.reduceEq]); (refine hK _ ?_); (clear hK K)
   refine z0u fun K5 hK5 => ?_
   refine zqi (z3p (fun n st => ∃ i : Nat, n = l.length - i /\ i <= l.length /\ st.t 0 = z44 l /\ st.t 4 = .osl 1 l.length /\ st.H 1 = some (.row 3 l.length ((Lis.rows l).map (D.int .i64))) /\
    st.t 7 = .int .i64 (Lis.most l - (Lis.sel l i).length) /\ st.t 9 = .int .i64 i /\ st.t 3 = .osl 0 (Lis.sel l i).length /\ st.H 0 = some (.row 3 (Lis.sel l i).length ((Lis.sel l i).map fun (n : Nat) => D.int .i64 (n : Int)))) l.length ?_ ?_)
   ·exact ⟨0, by omega, by omega, h0, h4, hH, by show st.t 7 = _; rw [h7]; simp [Lis.sel], rfl, h3, hH0⟩
   clear h0 h3 hH0 h4 hH h7 h8 hnx
   rintro n st ⟨i, rfl, hi, h0, h4, hH, h7, h9, h3, hH0⟩
   have fin : ∀ st' : St, Lis.sel l i = Lis.sel l l.length -> st'.t 3 = .osl 0 (Lis.sel l i).length -> st'.H 0 = some (.row 3 (Lis.sel l i).length ((Lis.sel l i).map fun (n : Nat) => D.int .i64 (n : Int))) -> K5 st' := by
    intro st' he h3 hH0
    refine hK5 _ ?_
    (refine zqh fun K hK => ?_); (simp only [go_sem, Nat.reduceBEq, Nat.reduceBeqDiff, Nat.reduceEqDiff, ↓reduceIte, reduceCtorEq, Nat.reduceAdd, Nat.reduceMul, Nat.reduceLeDiff, Nat.reduceLT, Int.reduceLT, Int.reduceLE, Int.reduceEq, h3]); (refine hK _ ?_); (clear hK K)
    (refine zqn ?_); (refine Exists.intro _ (And.intro rfl ?_))
    refine zj0 0 hH0 z2q z4m (by simp) (z0d (fun _ => rfl) _) ?_
    simp only [Lis.lis]
    rw [if_neg (by omega), List.map_map, he]
    rfl
   have hsm := Lis.sel_le_most l i
   have hsl := Lis.sel_len l i
   have hmb := Lis.most_bd l
   have hs := Lis.sel_succ l i
   have wi : IntKind.i64.wrap ((i : Int) + 1) = ((i + 1 : Nat) : Int) := by rw [z2r (by omega)]; omega
   repeat refine zqj ?_
   by_cases c0 : i < l.length
   ·have hin : (i : Int) < (l.length : Int) := by omega
    have i1 := z2t (D.int .i64) l i c0
    have hri : (Lis.rows l)[i]? = some ((Lis.rows l).getD i 0) := by rw [List.getD_eq_getElem?_getD, List.getElem?_eq_getElem (by omega)]; rfl
    by_cases c1 : 0 < Lis.most l - ((Lis.sel l i).length : Int)
    ·(refine zqh fun K hK => ?_); (simp only [go_sem, Nat.reduceBEq, Nat.reduceBeqDiff, Nat.reduceEqDiff, ↓reduceIte, reduceCtorEq, Nat.reduceAdd, Nat.reduceMul, Nat.reduceLeDiff, Nat.reduceLT, Int.reduceLT, Int.reduceLE, Int.reduceEq, h9, h0, z44, hin, h7, c1]); (refine hK _ ?_); (clear hK K)
     refine z0u fun K6 hK6 => ?_
     refine zqm true rfl (fun _ => ?_) (fun hc => (by cases hc))
     refine zqk (hK6 _ ?_)
     refine z0u fun K7 hK7 => ?_
     refine zqi ?_
     repeat refine zqj ?_
     have tail : ∀ st' : St, st'.t 0 = z44 l -> st'.t 4 = .osl 1 l.length -> st'.H 1 = some (.row 3 l.length ((Lis.rows l).map (D.int .i64))) ->
       st'.t 7 = .int .i64 (Lis.most l - (Lis.sel l (i + 1)).length) -> st'.t 9 = .int .i64 i -> st'.t 3 = .osl 0 (Lis.sel l (i + 1)).length -> st'.H 0 = some (.row 3 (Lis.sel l (i + 1)).length ((Lis.sel l (i + 1)).map fun (n : Nat) => D.int .i64 (n : Int))) -> K7 st' := by
      intro st' h0 h4 hH h7 h9 h3 hH0
      refine hK7 _ ?_
      (refine z29 ?_); (simp only [go_sem, Nat.reduceBEq, Nat.reduceBeqDiff, Nat.reduceEqDiff, ↓reduceIte, reduceCtorEq, Nat.reduceAdd, Nat.reduceMul, Nat.reduceLeDiff, Nat.reduceLT, Int.reduceLT, Int.reduceLE, Int.reduceEq, h9, wi])
      exact ⟨l.length - (i + 1), by omega, i + 1, rfl, by omega, h0, h4, hH, h7, rfl, h3, hH0⟩
     by_cases c2 : (Lis.rows l).getD i 0 = Lis.most l - ((Lis.sel l i).length : Int)
     ·have hb1 : ((Lis.sel l i).length + 1) * 8 <= 140737488355328 := by omega
      have hb2 : (Lis.sel l i).length + 1 <= maxLen := by unfold maxLen; omega
      have F : (Lis.sel l i).length <= 9223372036854775806 := by omega
      have wm : IntKind.i64.wrap (Lis.most l - ((Lis.sel l i).length : Int) - 1) = Lis.most l - (((Lis.sel l i).length + 1 : Nat) : Int) := by rw [z2r (by omega)]; omega
      have fin : (Lis.sel l i = [] \/ l.getD ((Lis.sel l i).getLastD 0) 0 < l.getD i 0) -> Lis.sel l (i + 1) = Lis.sel l i ++ [i] := by
       intro h; rw [hs]; unfold Lis.sel1; rw [if_pos ⟨by omega, c2, h⟩]
      have fin2 : ¬ (Lis.sel l i = [] \/ l.getD ((Lis.sel l i).getLastD 0) 0 < l.getD i 0) -> Lis.sel l (i + 1) = Lis.sel l i := by
       intro h; rw [hs]; unfold Lis.sel1; rw [if_neg (fun h' => h h'.2.2)]
      by_cases c3 : Lis.sel l i = []
      ·have c3' : ((Lis.sel l i).length : Int) = 0 := by rw [c3]; rfl
       rw [c3'] at c2
       have h7' : st.t 7 = .int .i64 (Lis.most l - 0) := by rw [h7, c3']
       (refine zqe (by decide +kernel) fun K hK => ?_); (simp only [go_sem, Nat.reduceBEq, Nat.reduceBeqDiff, Nat.reduceEqDiff, ↓reduceIte, reduceCtorEq, Nat.reduceAdd, Nat.reduceMul, Nat.reduceLeDiff, Nat.reduceLT, Int.reduceLT, Int.reduceLE, Int.reduceEq, h9, h4, hH, hin, hri, hrl, h7', c2, h3, c3', c0]); (refine hK _ ?_); (clear hK K)
       refine zqm true rfl (fun _ => ?_) (fun hc => (by cases hc))
       (refine zqh fun K hK => ?_); (simp only [go_sem, Nat.reduceBEq, Nat.reduceBeqDiff, Nat.reduceEqDiff, ↓reduceIte, reduceCtorEq, Nat.reduceAdd, Nat.reduceMul, Nat.reduceLeDiff, Nat.reduceLT, Int.reduceLT, Int.reduceLE, Int.reduceEq, h3, h9, hH0, hb1, hb2, F]); (refine hK _ ?_); (clear hK K)
       (refine z29 ?_); (simp only [go_sem, Nat.reduceBEq, Nat.reduceBeqDiff, Nat.reduceEqDiff, ↓reduceIte, reduceCtorEq, Nat.reduceAdd, Nat.reduceMul, Nat.reduceLeDiff, Nat.reduceLT, Int.reduceLT, Int.reduceLE, Int.reduceEq, h7, wm])
       refine (show K7 _ from tail _ h0 h4 hH ?_ h9 ?_ ?_)
       ·rw [fin (.inl c3), List.length_append]; rfl
       ·rw [fin (.inl c3), List.length_append]; rfl
       ·rw [fin (.inl c3), List.length_append, List.map_append]; rfl
      ·have hpos : 0 < (Lis.sel l i).length := List.length_pos_iff.2 c3
       have c3' : ¬ ((Lis.sel l i).length : Int) = 0 := by omega
       have wl : IntKind.i64.wrap (((Lis.sel l i).length : Int) - 1) = (((Lis.sel l i).length - 1 : Nat) : Int) := by rw [z2r (by omega)]; omega
       have hcc : (((Lis.sel l i).length - 1 : Nat) : Int) < ((Lis.sel l i).length : Int) := by omega
       have hlast : (Lis.sel l i)[(Lis.sel l i).length - 1]? = some ((Lis.sel l i).getLastD 0) := by
        rw [List.getLastD_eq_getLast?, List.getLast?_eq_getElem?, List.getElem?_eq_getElem (by omega)]; rfl
       have hlt : (Lis.sel l i).getLastD 0 < l.length := by
        have := Lis.sel_lt l i _ (List.mem_of_getElem? hlast); omega
       have i2 := z2t (D.int .i64) l _ hlt
       have hle1 : (Lis.sel l i).length - 1 < (Lis.sel l i).length := by omega
       by_cases c4 : l[(Lis.sel l i).getLastD 0] < l[i]
       ·(refine zqe (by decide +kernel) fun K hK => ?_); (simp only [go_sem, Nat.reduceBEq, Nat.reduceBeqDiff, Nat.reduceEqDiff, ↓reduceIte, reduceCtorEq, Nat.reduceAdd, Nat.reduceMul, Nat.reduceLeDiff, Nat.reduceLT, Int.reduceLT, Int.reduceLE, Int.reduceEq, h9, h4, hH, hin, hri, hrl, h7, c2, h3, c3', c0, h0, z44, i1, i2, wl, hcc, hH0, hlast, c4]); (refine hK _ ?_); (clear hK K)
        have c4' : l.getD ((Lis.sel l i).getLastD 0) 0 < l.getD i 0 := by
         rw [List.getD_eq_getElem?_getD, List.getD_eq_getElem?_getD, List.getElem?_eq_getElem hlt, List.getElem?_eq_getElem c0]
         exact c4
        refine zqm true rfl (fun _ => ?_) (fun hc => (by cases hc))
        (refine zqh fun K hK => ?_); (simp only [go_sem, Nat.reduceBEq, Nat.reduceBeqDiff, Nat.reduceEqDiff, ↓reduceIte, reduceCtorEq, Nat.reduceAdd, Nat.reduceMul, Nat.reduceLeDiff, Nat.reduceLT, Int.reduceLT, Int.reduceLE, Int.reduceEq, h3, h9, hH0, hb1, hb2, F]); (refine hK _ ?_); (clear hK K)
        (refine z29 ?_); (simp only [go_sem, Nat.reduceBEq, Nat.reduceBeqDiff, Nat.reduceEqDiff, ↓reduceIte, reduceCtorEq, Nat.reduceAdd, Nat.reduceMul, Nat.reduceLeDiff, Nat.reduceLT, Int.reduceLT, Int.reduceLE, Int.reduceEq, h7, wm])
        refine (show K7 _ from tail _ h0 h4 hH ?_ h9 ?_ ?_)
        ·rw [fin (.inr c4'), List.length_append]; rfl
        ·rw [fin (.inr c4'), List.length_append]; rfl
        ·rw [fin (.inr c4'), List.length_append, List.map_append]; rfl
       ·(refine zqe (by decide +kernel) fun K hK => ?_); (simp only [go_sem, Nat.reduceBEq, Nat.reduceBeqDiff, Nat.reduceEqDiff, ↓reduceIte, reduceCtorEq, Nat.reduceAdd, Nat.reduceMul, Nat.reduceLeDiff, Nat.reduceLT, Int.reduceLT, Int.reduceLE, Int.reduceEq, h9, h4, hH, hin, hri, hrl, h7, c2, h3, c3', c0, h0, z44, i1, i2, wl, hcc, hH0, hlast, c4]); (refine hK _ ?_); (clear hK K)
        refine zqm false rfl (fun hc => (by cases hc)) (fun _ => ?_)
        have c4' : ¬ (Lis.sel l i = [] \/ l.getD ((Lis.sel l i).getLastD 0) 0 < l.getD i 0) := by
         rintro (h | h)
         ·exact c3 h
         ·apply c4
          rw [List.getD_eq_getElem?_getD, List.getD_eq_getElem?_getD, List.getElem?_eq_getElem hlt, List.getElem?_eq_getElem c0] at h
          exact h
        refine zqk ?_
        refine tail _ h0 h4 hH ?_ h9 ?_ ?_ <;> rw [fin2 c4']
        ·exact h7
        ·exact h3
        ·exact hH0
     ·(refine zqe (by decide +kernel) fun K hK => ?_); (simp only [go_sem, Nat.reduceBEq, Nat.reduceBeqDiff, Nat.reduceEqDiff, ↓reduceIte, reduceCtorEq, Nat.reduceAdd, Nat.reduceMul, Nat.reduceLeDiff, Nat.reduceLT, Int.reduceLT, Int.reduceLE, Int.reduceEq, h9, h4, hH, hin, hri, hrl, h7, c2, c0]); (refine hK _ ?_); (clear hK K)
      refine zqm false rfl (fun hc => (by cases hc)) (fun _ => ?_)
      refine zqk ?_
      have fin2 : Lis.sel l (i + 1) = Lis.sel l i := by rw [hs]; unfold Lis.sel1; rw [if_neg (fun h => c2 h.2.1)]
      refine tail _ h0 h4 hH ?_ h9 ?_ ?_ <;> rw [fin2]
      ·exact h7
      ·exact h3
      ·exact hH0
    ·(refine zqh fun K hK => ?_); (simp only [go_sem, Nat.reduceBEq, Nat.reduceBeqDiff, Nat.reduceEqDiff, ↓reduceIte, reduceCtorEq, Nat.reduceAdd, Nat.reduceMul, Nat.reduceLeDiff, Nat.reduceLT, Int.reduceLT, Int.reduceLE, Int.reduceEq, h9, h0, z44, hin, h7, c1]); (refine hK _ ?_); (clear hK K)
     refine z0u fun K6 hK6 => ?_
     refine zqm false rfl (fun hc => (by cases hc)) (fun _ => ?_)
     refine zql (show K5 _ from fin _ ?_ h3 hH0)
     have := Lis.sel_stop l i (by omega) (l.length - i)
     rw [<- this]; congr 1; omega
   ·obtain rfl : i = l.length := by omega
    have hin : ¬ (l.length : Int) < (l.length : Int) := by omega
    (refine zqh fun K hK => ?_); (simp only [go_sem, Nat.reduceBEq, Nat.reduceBeqDiff, Nat.reduceEqDiff, ↓reduceIte, reduceCtorEq, Nat.reduceAdd, Nat.reduceMul, Nat.reduceLeDiff, Nat.reduceLT, Int.reduceLT, Int.reduceLE, Int.reduceEq, h9, h0, z44, hin]); (refine hK _ ?_); (clear hK K)
    refine z0u fun K6 hK6 => ?_
    refine zqm false rfl (fun hc => (by cases hc)) (fun _ => ?_)
    exact zql (show K5 _ from fin _ rfl h3 hH0)
end
section
open Abs Facts Tr
attribute [local irreducible] awp
set_option maxRecDepth 100000
namespace Tr
def zfm (p : T) (l : List Idv) : List Int := l.map fun i => ((p.kids.map T.id).idxOf i : Int)
def risL (p : T) (l : List Idv) : List Idv := (Lis.lis (zfm p l)).map fun n => l.getD n Idv.zero
end Tr
set_option maxHeartbeats 16000000 in
theorem zw4 (p : T) (l : List Idv) (hp : szB p = true) (hll : l.length <= 1000000) (hn : (p.kids.map T.id).Nodup) (hl : ∀ i ∈ l, i ∈ p.kids.map T.id) : PC prog 56 [z1f p, z0q l] (z0q (risL p l)) := by
 obtain ⟨h0, h1, g1, h2, g2, h3, h4⟩ := (z2o p).1 hp
 refine z2f 3 (by simp only [pureD.pureL, z0a, z34, Bool.and_self]) (z34 _) (z23 [11, 42] func56 rfl (by decide +kernel) rfl ?_)
 show awp _ _ (Code.seq _ _) _ _
 repeat' (first | refine nxt ?_ | ((refine zqh fun K hK => ?_); (simp (disch := omega) only [go_sem, Nat.reduceBEq, ↓reduceIte, reduceCtorEq, Nat.reduceAdd])) | (refine hK _ ?_; clear hK K))
 (refine z3i (fun U st => ∃ (i : Nat), U = l.length - i /\ st.t 1 = z0q l /\ st.t 2 = .ptr 0 0 /\ st.t 5 = .osl 1 i /\ st.t 6 = .int .i64 i /\ st.H (0) = some (.box 27 (z06 p)) /\ st.H (1) = some (.row 3 i ((zfm p (l.take i)).map (D.int .i64))) /\ st.nx = 2 /\ (i <= l.length)) ?_ ?_); rotate_left; (rintro U st ⟨i, rfl, v1, v2, v5, v6, vH0, vH1, vnx, vp0⟩); rotate_left
 ·(refine ⟨_, 0, rfl, ?_⟩); (simp (disch := omega) only [go_sem, Nat.reduceBEq, true_and, and_true, and_self, Int.natCast_zero, z0q])
  rfl
 by_cases hi : i < l.length
 ·have hli := hl _ (List.getElem_mem hi)
  have htk : zfm p (l.take (i + 1)) = zfm p (l.take i) ++ [((p.kids.map T.id).idxOf l[i] : Int)] := by rw [List.take_succ_eq_append_getElem hi, zfm, List.map_append]; rfl
  obtain ⟨x, hx⟩ : ∃ x, x = (p.kids.map T.id).idxOf l[i] := ⟨_, rfl⟩
  have hxl : x < p.kids.length := by have := List.idxOf_lt_length_iff.2 hli; rw [List.length_map] at this; omega
  have hxi : p.kids[x].id = l[i] := by
   have := List.getElem_idxOf (xs := p.kids.map T.id) (x := l[i]) (by rw [List.length_map]; omega)
   simpa [<- hx] using this
  rw [<- hx] at htk
  repeat' (first | refine nxt ?_ | ((refine zqh fun K hK => ?_); (simp (disch := omega) only [go_sem, Nat.reduceBEq, ↓reduceIte, v1, v6, vnx, z0q])) | (refine zqd _ rfl ?_ ?_ <;> intro hc <;> (((try simp only [z03] at hc); (try omega)))) | (refine hK _ ?_; clear hK K))
  (refine z3i (fun U st => ∃ (k : Nat), U = p.kids.length - k /\ st.t 1 = z0q l /\ st.t 2 = .ptr 0 0 /\ st.t 5 = .osl 1 (if x < k then i + 1 else i) /\ st.t 6 = .int .i64 i /\ st.t 7 = .int .i64 k /\ st.H (0) = some (.box 27 (z06 p)) /\ st.H (1) = some (.row 3 (if x < k then i + 1 else i) ((zfm p (l.take (if x < k then i + 1 else i))).map (D.int .i64))) /\ st.nx = 2 /\ (k <= p.kids.length)) ?_ ?_); rotate_left; (rintro U st ⟨k, rfl, w1, w2, w5, w6, w7, wH0, wH1, wnx, wp0⟩); rotate_left
  ·(refine ⟨_, 0, rfl, ?_⟩); (simp (disch := omega) only [go_sem, Nat.reduceBEq, v1, v2, v5, v6, vH0, vH1, true_and, and_true, and_self, Int.natCast_zero])
   rw [if_neg (by omega)]
   exact ⟨rfl, rfl⟩
  by_cases O : k < p.kids.length
  ·by_cases he : p.kids[k].id = l[i]
   ·have hkx : k = x := by
     have h5 : (p.kids.map T.id)[k]'(by rw [List.length_map]; omega) = (p.kids.map T.id)[x]'(by rw [List.length_map]; omega) := by simp [he, hxi]
     exact (List.getElem_inj hn).1 h5
    subst hkx
    rw [if_neg (Nat.lt_irrefl _)] at w5 wH1
    repeat' (first | refine nxt ?_ | ((first | refine zqh fun K hK => ?_ | refine zqe (by decide +kernel) fun K hK => ?_ | refine zqr fun K hK => ?_); (simp (disch := omega) only [go_sem, Nat.reduceBEq, Nat.reduceEqDiff, ↓reduceIte, reduceCtorEq, Nat.reduceAdd, Nat.reduceLeDiff, Nat.reduceLT, w1, w2, w5, w6, w7, wH0, wH1, wnx, z0b, z0q, he])) | ((first | refine zqd _ rfl (fun hc => ?_) (fun hc => ?_) | refine zqm _ rfl (fun hc => ?_) (fun hc => ?_)) <;> (first | (cases hc; done) | ((try simp only [z03] at hc); (try omega)))) | (refine hK _ ?_; clear hK K))
    have hlt : k < k + 1 := Nat.lt_succ_self _
    (refine Exists.intro _ (And.intro ?_ ⟨k + 1, rfl, ?_⟩)); rotate_left; (simp (disch := omega) only [go_sem, Nat.reduceBEq, w1, w2, w5, w6, w7, wH0, wH1, true_and, Int.natCast_add, Int.natCast_one, List.map_append, List.map_cons, List.map_nil, if_pos hlt, htk]); rotate_left
    ·omega
    ·omega
   ·have hkx : ¬ k = x := fun e => he (by subst e; exact hxi)
    have hlt : (x < k + 1) ↔ (x < k) := by omega
    repeat' (first | refine nxt ?_ | ((first | refine zqh fun K hK => ?_ | refine zqe (by decide +kernel) fun K hK => ?_ | refine zqr fun K hK => ?_); (simp (disch := omega) only [go_sem, Nat.reduceBEq, Nat.reduceEqDiff, ↓reduceIte, reduceCtorEq, Nat.reduceAdd, Nat.reduceLeDiff, w1, w2, w6, w7, wH0, wnx, z0b, z0q, he])) | ((first | refine zqd _ rfl (fun hc => ?_) (fun hc => ?_) | refine zqm _ rfl (fun hc => ?_) (fun hc => ?_)) <;> (first | (cases hc; done) | ((try simp only [z03] at hc); (try omega)))) | (refine hK _ ?_; clear hK K))
    (refine Exists.intro _ (And.intro ?_ ⟨k + 1, rfl, ?_⟩)); rotate_left; (simp (disch := omega) only [go_sem, Nat.reduceBEq, w1, w2, w5, w6, w7, wH0, wH1, true_and, Int.natCast_add, Int.natCast_one, hlt]); rotate_left
    ·omega
    ·omega
  ·rw [if_pos (by omega)] at w5 wH1
   repeat' (first | refine nxt ?_ | ((first | refine zqh fun K hK => ?_ | refine zqr fun K hK => ?_); (simp (disch := omega) only [go_sem, Nat.reduceBEq, ↓reduceIte, reduceCtorEq, Nat.reduceAdd, w2, w6, w7, wH0, wnx, z0b])) | (refine zqd _ rfl ?_ ?_ <;> intro hc <;> (((try simp only [z03] at hc); (try omega)))) | refine zqz ?_ | (refine hK _ ?_; clear hK K))
   (refine Exists.intro _ (And.intro ?_ ⟨i + 1, rfl, ?_⟩)); rotate_left; (simp (disch := omega) only [go_sem, Nat.reduceBEq, w1, w2, w5, w6, wH0, wH1, true_and, Int.natCast_add, Int.natCast_one]); rotate_left
   ·omega
   ·omega
 ·have hta : l.take i = l := List.take_of_length_le (by omega)
  have hil : i = l.length := by omega
  subst hil
  rw [List.take_length] at vH1
  have cl := pc13 (zfm p l) (by unfold maxLen zfm; rw [List.length_map]; omega)
  have hl1 : D.rsl false (z01 prog 3) (z1j (z08 prog 3) (z01 prog 3) l.length ((zfm p l).map (D.int .i64))) = z44 (zfm p l) := by
   have h5 : l.length = ((zfm p l).map (D.int .i64)).length := by unfold zfm; simp
   rw [z2q, z4m, h5, z7l]; rfl
  obtain ⟨L, hL⟩ : ∃ L, L = Lis.lis (zfm p l) := ⟨_, rfl⟩
  have hLl : ∀ n ∈ L, n < l.length := fun n hn => by rw [hL] at hn; have := (Lis.lis_rise (zfm p l)).2 n hn; simpa [zfm] using this
  have hre : risL p l = L.map fun n => l.getD n Idv.zero := by rw [hL]; rfl
  rw [<- hL] at cl
  repeat' (first | refine nxt ?_ | ((refine zqh fun K hK => ?_); (simp (disch := omega) only [go_sem, Nat.reduceBEq, ↓reduceIte, v1, v6, z0q])) | (refine zqd _ rfl ?_ ?_ <;> intro hc <;> (((try simp only [z03] at hc); (try omega)))) | (refine hK _ ?_; clear hK K))
  refine zqz (zlb _ (zl6 (id := 1) (j := 5) (e := 3) (n := l.length) (cs := (zfm p l).map (D.int .i64)) (by (simp (disch := omega) only [go_sem, vH1])) (by decide +kernel) (z0d (fun _ => rfl) _) (by (simp (disch := omega) only [go_sem, Nat.reduceBEq, v5]))) ?_)
  rw [hl1]
  repeat' (first | refine nxt ?_ | ((first | refine zqh fun K hK => ?_ | refine zqs (cl) ?_); (simp (disch := omega) only [go_sem, Nat.reduceBEq, ↓reduceIte, reduceCtorEq, Nat.reduceAdd, Nat.reduceMul, v5, vnx])) | (refine hK _ ?_; clear hK K))
  have hLb : L.length <= 1000000 := by
   rw [hL]
   have h6 := Lis.lis_rise (zfm p l)
   have h7 : (Lis.lis (zfm p l)).length <= (zfm p l).length := by
    unfold Lis.lis
    split
    ·exact Nat.zero_le _
    ·exact Lis.sel_len _ _
   unfold zfm at h7
   rw [List.length_map] at h7
   unfold zfm
   omega
  (refine z3i (fun U st => ∃ (i : Nat), U = L.length - i /\ st.t 1 = z0q l /\ st.t 8 = z44 (L.map fun (n : Nat) => (n : Int)) /\ st.t 9 = .osl 2 i /\ st.t 10 = .int .i64 i /\ st.H (2) = some (.row 23 i (((L.take i).map fun n => l.getD n Idv.zero).flatMap cellsId)) /\ st.nx = 3 /\ (i <= L.length)) ?_ ?_); rotate_left; (rintro U st ⟨i, rfl, u1, u8, u9, u10, uH2, unx, up0⟩); rotate_left
  ·(refine ⟨_, 0, rfl, ?_⟩); (simp (disch := omega) only [go_sem, Nat.reduceBEq, v1, and_self, Int.natCast_zero, List.flatMap_nil, List.map_nil, z44, z0q])
  by_cases hi : i < L.length
  ·have hlt := hLl _ (List.getElem_mem hi)
   have htk := List.take_succ_eq_append_getElem hi
   have hgd : l.getD L[i] Idv.zero = l[L[i]] := by simp [List.getD, hlt]
   repeat' (first | refine nxt ?_ | ((first | refine zqh fun K hK => ?_ | refine zqr fun K hK => ?_); (simp (disch := omega) only [go_sem, Nat.reduceBEq, ↓reduceIte, reduceCtorEq, Nat.reduceAdd, Nat.reduceMul, Nat.reduceLeDiff, u1, u8, u9, u10, uH2, unx, z0q, z44, Function.comp_apply])) | (refine zqd _ rfl ?_ ?_ <;> intro hc <;> (((try simp only [z03] at hc); (try omega)))) | (refine hK _ ?_; clear hK K))
   (refine Exists.intro _ (And.intro ?_ ⟨i + 1, rfl, ?_⟩)); rotate_left; (simp (disch := omega) only [go_sem, Nat.reduceBEq, u1, u8, u9, u10, uH2, true_and, Int.natCast_add, Int.natCast_one, List.flatMap_append, List.flatMap_cons, List.flatMap_nil, List.map_append, List.map_cons, List.map_nil, List.append_nil, htk, hgd, cellsId]); rotate_left
   ·omega
   ·omega
  ·have hta : L.take i = L := List.take_of_length_le (by omega)
   have hil : i = L.length := by omega
   rw [hta, <- hre] at uH2
   repeat' (first | refine nxt ?_ | ((refine zqh fun K hK => ?_); (simp (disch := omega) only [go_sem, Nat.reduceBEq, ↓reduceIte, u8, u9, u10, unx, z44])) | (refine zqd _ rfl ?_ ?_ <;> intro hc <;> (((try simp only [z03] at hc); (try omega)))) | refine zqz ?_ | refine zqu (by simp only [go_sem]; rfl) rfl ?_ | (refine hK _ ?_; clear hK K))
   refine z47 (nx := 0) ?_
   have hlen : (risL p l).length = L.length := by rw [hre, List.length_map]
   rw [hil, <- hlen]
   rw [hil, <- hlen] at uH2
   exact z0t (f := cellsId) (l := risL p l) 1 uH2 z6l z8l (fun _ => rfl) (fun _ => rfl)
namespace Tr
theorem zhv : ∀ t : T, nodesT t = t :: (edT t).map (·.2) := by
 refine z50 fun t ih => ?_
 rw [z1c, zjo, List.map_flatMap]
 congr 1
 rw [List.flatMap_def, List.flatMap_def]
 exact congrArg _ (List.map_congr_left fun k O => by rw [ih k O, List.map_cons])
def zt9 (A : T) (done : List (T × T)) : List Idv := (done.filter fun e => z26 e.2.id A && !decide (e.2.id ∈ z2d A e.1)).map fun e => e.2.id
theorem outR_le (A : T) (done : List (T × T)) : (zt9 A done).length <= done.length := by
 unfold zt9; rw [List.length_map]; exact List.length_filter_le _ _
theorem zta (A : T) (done : List (T × T)) (e : T × T) : zt9 A (done ++ [e]) = if z26 e.2.id A = true /\ e.2.id ∉ z2d A e.1 then zt9 A done ++ [e.2.id] else zt9 A done := by
 unfold zt9
 rw [List.filter_append, List.map_append]
 by_cases h1 : z26 e.2.id A = true <;> by_cases h2 : e.2.id ∈ z2d A e.1 <;> simp [h1, h2]
theorem kid_ne {A B : T} (ba : z39 A = true) (bb : z39 B = true) {q x : T} (hq : q ∈ nodesT B) (hx : x ∈ q.kids) : ¬ A.id = x.id := by
 rw [(z5t ba).trans (z5t bb).symm]
 exact z6e ((z1p B).1 bb).2.2 hq hx
theorem par_B {B : T} (bb : z39 B = true) {q x : T} (hq : q ∈ nodesT B) (hx : x ∈ q.kids) : (z38 x.id B).1 = q := by
 have nb := ((z1p B).1 bb).2.2
 have hm : x.id ∈ idsT B := List.mem_map.2 ⟨x, z0z B q hq x (z0i hx (z09 x)), rfl⟩
 rw [ziz nb (z6e nb hq hx) hm, z4p B nb q hq x hx, z12 nb hq rfl]
theorem par_A {A B : T} (ba : z39 A = true) (bb : z39 B = true) {q x : T} (hq : q ∈ nodesT B) (hx : x ∈ q.kids) (h : z26 x.id A = true) : (z38 x.id A).1 ∈ nodesT A /\ (z38 x.id A).1.id = (z71 x.id A).1 /\ (z38 x.id A).2.2 = (z71 x.id A).2.1 /\ (z71 x.id A).2.2 = true /\ 0 <= (z71 x.id A).2.1 /\ ∃ j : Nat, ∃ hj : j < (z38 x.id A).1.kids.length, (z71 x.id A).2.1 = (j : Int) /\ (z38 x.id A).1.kids[j].id = x.id := by
 have na := ((z1p A).1 ba).2.2
 have h0 := kid_ne ba bb hq hx
 have hm : x.id ∈ idsT A := by rw [z1k, decide_eq_true_eq] at h; exact h
 obtain ⟨q2, hq2, k2, hk2, e1, e2⟩ := zdw na hm h0
 obtain ⟨j, hj, rfl⟩ := List.getElem_of_mem hk2
 have hp := zt2 na hq2 j hj
 rw [e1] at hp
 have hf : (z38 x.id A).1 = q2 := by rw [ziz na h0 hm, e2, z12 na hq2 rfl]
 have hf2 : (z38 x.id A).2.2 = (z71 x.id A).2.1 := by rw [ziz na h0 hm]
 rw [hf2, hp]
 refine ⟨hf ▸ hq2, by rw [hf], rfl, rfl, Int.natCast_nonneg _, j, by rw [hf]; exact hj, rfl, ?_⟩
 simp only [hf]
 exact e1
theorem par_O {A x : T} (h : z26 x.id A = false) : z38 x.id A = (T.zero, 0, -1) := by
 refine zl8 A fun hm => ?_
 have : z26 x.id A = true := by rw [z1k, decide_eq_true_eq, z2h]; exact List.mem_cons_of_mem _ hm
 rw [h] at this; cases this
theorem zxr {α : Type} [DecidableEq α] {l : List α} (hn : l.Nodup) {j : Nat} (hj : j < l.length) : l.idxOf l[j] = j := by
 have h1 : l.idxOf l[j] < l.length := List.idxOf_lt_length_iff.2 (List.getElem_mem hj)
 exact (List.getElem_inj (h₀ := h1) hn).1 (List.getElem_idxOf h1)
theorem zxs {A B : T} (ba : z39 A = true) (bb : z39 B = true) {p q : T} (hq : q ∈ nodesT B) (hp : p ∈ nodesT A) (hid : p.id = q.id) :
  (∀ i ∈ (z3b A q).map T.id, i ∈ p.kids.map T.id) /\ risL p ((z3b A q).map T.id) = z2d A q := by
 have na := ((z1p A).1 ba).2.2
 have key : ∀ k ∈ z3b A q, ∃ j : Nat, ∃ hj : j < p.kids.length, (z71 k.id A).2.1 = (j : Int) /\ p.kids[j].id = k.id := by
  intro k O
  obtain ⟨h1, h2⟩ := List.mem_filter.1 O
  simp only [z31, Bool.and_eq_true, decide_eq_true_eq] at h2
  obtain ⟨_, h3, h4⟩ := h2
  have hh : z26 k.id A = true := by
   cases h : z26 k.id A with
   | true => rfl
   | false =>
    rw [z1k, decide_eq_false_iff_not, <- z57] at h
    unfold z71 at h3
    simp [h] at h3
  obtain ⟨g1, g2, g3, g4, g5, j, hj, g6, g7⟩ := par_A ba bb hq h1 hh
  have : (z38 k.id A).1 = p := by
   have f1 := z12 na g1 rfl
   rw [g2, h4, <- hid, z12 na hp rfl] at f1
   simp only [Prod.mk.injEq, and_true] at f1
   exact f1.symm
  subst this
  exact ⟨j, hj, g6, g7⟩
 have hpl : zfm p ((z3b A q).map T.id) = zao A q := by
  unfold zfm zao
  rw [List.map_map]
  refine List.map_congr_left fun k O => ?_
  obtain ⟨j, hj, h1, h2⟩ := key k O
  rw [h1]
  have h3 : (p.kids.map T.id)[j]'(by rw [List.length_map]; exact hj) = k.id := by simpa using h2
  have := zxr (z30 na hp) (j := j) (by rw [List.length_map]; exact hj)
  rw [h3] at this
  simp only [Function.comp_apply, this]
 refine ⟨fun i hi => ?_, ?_⟩
 ·obtain ⟨k, O, rfl⟩ := List.mem_map.1 hi
  obtain ⟨j, hj, _, h2⟩ := key k O
  rw [<- h2]
  exact List.mem_map.2 ⟨_, List.getElem_mem hj, rfl⟩
 ·unfold risL z2d
  rw [hpl]
def zg6 (A u : T) (i : Nat) : List T := (u.kids.take i).filter (z31 A u)
theorem zpp {A u : T} {i : Nat} (h : i < u.kids.length) : zg6 A u (i + 1) = zg6 A u i ++ if z31 A u u.kids[i] = true then [u.kids[i]] else [] := by
 unfold zg6
 rw [List.take_succ_eq_append_getElem h, List.filter_append]
 congr 1
 split <;> simp_all
theorem zxt (A u : T) (i : Nat) : (zg6 A u i).length <= i := by
 unfold zg6
 refine Nat.le_trans (List.length_filter_le _ _) ?_
 rw [List.length_take]; omega
theorem zjq (A u : T) : zg6 A u u.kids.length = z3b A u := by unfold zg6 z3b; rw [List.take_length]
end Tr
set_option maxHeartbeats 32000000 in
theorem zpq (A B : T) (fa : Fit50 A) (fb : Fit50 B) (hcm : zag A B = true) : PC prog 24 [z1f A, z1f B] (z0q (zg4 A B)) := by
 obtain ⟨ba, bb, _⟩ := (zfo A B).1 hcm
 have na := ((z1p A).1 ba).2.2
 have nb := ((z1p B).1 bb).2.2
 have hcb := fb.cnt
 have hda := fa.dep
 have hdb := fb.dep
 have hne : (nodesT B).length = (edT B).length + 1 := by rw [zhv, List.length_cons, List.length_map]
 have hel : (edT B).length + 1 <= 1000000 := by rw [<- hne]; exact hcb
 have c1 := zll B fb.sz (by omega)
 refine z2f 3 (by simp only [pureD.pureL, z0a, Bool.and_self]) (z34 _) (z23 [20, 61, 3000070, 3000072, 3000074, 3000076, 5000077] func24 rfl (by decide +kernel) rfl ?_)
 show awp _ _ (Code.seq _ _) _ _
 repeat' (first | refine nxt ?_ | ((first | refine zqh fun K hK => ?_ | refine zqs (c1) ?_); (simp (disch := omega) only [go_sem, Nat.reduceBEq, ↓reduceIte, reduceCtorEq, Nat.reduceAdd, Nat.reduceMul, Nat.reduceLeDiff])) | (refine hK _ ?_; clear hK K))
 (refine z3i (fun U st => ∃ (i : Nat), U = (edT B).length - i /\ st.t 2 = .ptr 0 0 /\ st.t 3 = .ptr 1 0 /\ st.t 5 = .osl 2 (zt9 A ((edT B).take i)).length /\ st.t 6 = z0b (nodesT B) /\ st.t 7 = .int .i64 ((i + 1 : Nat) : Int) /\ st.H (0) = some (.box 27 (z06 A)) /\ st.H (1) = some (.box 27 (z06 B)) /\ st.H (2) = some (.row 23 (zt9 A ((edT B).take i)).length ((zt9 A ((edT B).take i)).flatMap cellsId)) /\ (i <= (edT B).length) /\ (3 <= st.nx)) ?_ ?_); rotate_left; (rintro U st ⟨i, rfl, v2, v3, v5, v6, v7, vH0, vH1, vH2, vp0, vp1⟩); rotate_left
 ·(refine ⟨_, 0, rfl, ?_⟩); (simp (disch := omega) only [go_sem, Nat.reduceBEq, Nat.reduceLeDiff, true_and, and_true, and_self, Int.natCast_one, z0b])
  exact ⟨rfl, rfl⟩
 obtain ⟨m, hm⟩ : ∃ m, st.nx = m := ⟨_, rfl⟩
 rw [hm] at vp1
 have e0 := z05 (show 0 < m by omega)
 have e1 := z05 (show 1 < m by omega)
 have e2 := z05 (show 2 < m by omega)
 by_cases hi : i < (edT B).length
 rotate_left
 ·repeat' (first | refine nxt ?_ | ((refine zqh fun K hK => ?_); (simp (disch := omega) only [go_sem, Nat.reduceBEq, ↓reduceIte, v5, v6, v7, hm, z0b, hne])) | (refine zqd _ rfl ?_ ?_ <;> intro hc <;> (((try simp only [z03] at hc); (try omega)))) | refine zqz ?_ | refine zqu (by simp only [go_sem]; rfl) rfl ?_ | (refine hK _ ?_; clear hK K))
  have hta : (edT B).take i = edT B := List.take_of_length_le (by omega)
  have hout : zt9 A (edT B) = zg4 A B := rfl
  rw [hta, hout] at vH2
  rw [hta, hout]
  refine z47 (nx := 0) (z0t (f := cellsId) (l := zg4 A B) 1 vH2 z6l z8l (fun _ => rfl) (fun _ => rfl))
 obtain ⟨e, hee⟩ : ∃ e, (edT B)[i] = e := ⟨_, rfl⟩
 have hmem : e ∈ edT B := by rw [<- hee]; exact List.getElem_mem hi
 obtain ⟨hq, hx⟩ := (zt3 B e).1 hmem
 have hxB : e.2 ∈ nodesT B := z0z B _ hq _ (z0i hx (z09 _))
 have hxn : (nodesT B)[i + 1]'(by omega) = e.2 := by simp only [zhv, List.getElem_cons_succ, List.getElem_map, hee]
 have htk : (edT B).take (i + 1) = (edT B).take i ++ [e] := by rw [List.take_succ_eq_append_getElem hi, hee]
 have hsn := zta A ((edT B).take i) e
 rw [<- htk] at hsn
 have hle := outR_le A ((edT B).take i)
 rw [List.length_take] at hle
 have hi1 : i + 1 < (nodesT B).length := by omega
 have c2 := z000 A e.2.id fa
 have c3 := za8 e.2.id A fa.sz (by omega)
 have c4 := za8 e.2.id B fb.sz (by omega)
 rw [par_B bb hq hx] at c4
 cases hA : z26 e.2.id A
 ·rw [hA] at c2
  rw [hA, if_neg (by simp)] at hsn
  repeat' (first | refine nxt ?_ | ((first | refine zqh fun K hK => ?_ | refine zqr fun K hK => ?_ | refine zqs (c2) ?_); (simp (disch := omega) only [go_sem, Nat.reduceBEq, ↓reduceIte, reduceCtorEq, Nat.reduceAdd, Nat.reduceLeDiff, v2, v6, v7, vH0, hm, e0, z0b, hxn])) | (refine zqd _ rfl ?_ ?_ <;> intro hc <;> (first | (cases hc; done) | ((try simp only [z03] at hc); (try omega)))) | refine zqz ?_ | (refine hK _ ?_; clear hK K))
  (refine Exists.intro _ (And.intro ?_ ⟨i + 1, rfl, ?_⟩)); rotate_left; (simp (disch := omega) only [go_sem, Nat.reduceBEq, Nat.reduceLeDiff, v2, v3, v5, v6, v7, vH0, vH1, vH2, true_and, Int.natCast_add, Int.natCast_one, e0, e1, e2, hsn]); rotate_left
  ·omega
  ·omega
 rw [hA] at c2
 obtain ⟨p1, p2, p3, p4, p5, j, hj, p6, p7⟩ := par_A ba bb hq hx hA
 obtain ⟨p, hp⟩ : ∃ p, (z38 e.2.id A).1 = p := ⟨_, rfl⟩
 rw [hp] at c3 p1 p2
 by_cases hid : p.id = e.1.id
 rotate_left
 ·have hns : e.2.id ∉ z2d A e.1 := fun h => by
   obtain ⟨k', hk', e5, hu⟩ := z74 h
   simp only [z31, Bool.and_eq_true, decide_eq_true_eq] at hu
   rw [e5] at hu
   exact hid (p2.trans hu.2.2)
  rw [if_pos ⟨hA, hns⟩] at hsn
  repeat' (first | refine nxt ?_ | ((first | refine zqh fun K hK => ?_ | refine zqr fun K hK => ?_ | refine zqs (c2) ?_ | refine zqs (c3) ?_ | refine zqs (c4) ?_); (simp (disch := omega) only [go_sem, Nat.reduceBEq, ↓reduceIte, reduceCtorEq, Nat.reduceAdd, Nat.reduceMul, Nat.reduceLeDiff, v2, v3, v5, v6, v7, vH0, vH1, vH2, hm, e0, e1, e2, z0b, hxn, hid])) | (refine zqd _ rfl ?_ ?_ <;> intro hc <;> (first | (cases hc; done) | ((try simp only [z03] at hc); (try omega)))) | refine zqz ?_ | (refine hK _ ?_; clear hK K))
  (refine Exists.intro _ (And.intro ?_ ⟨i + 1, rfl, ?_⟩)); rotate_left; (simp (disch := omega) only [go_sem, Nat.reduceBEq, Nat.reduceLeDiff, v2, v3, v5, v6, v7, vH0, vH1, vH2, true_and, and_true, Int.natCast_add, Int.natCast_one, List.flatMap_append, List.flatMap_cons, List.flatMap_nil, List.append_nil, e0, e1, e2, hsn, cellsId, List.length_append, List.length_cons, List.length_nil]); rotate_left
  ·omega
  ·omega
 repeat' (first | refine nxt ?_ | ((first | refine zqh fun K hK => ?_ | refine zqs (c2) ?_ | refine zqs (c3) ?_ | refine zqs (c4) ?_); (simp (disch := omega) only [go_sem, Nat.reduceBEq, ↓reduceIte, reduceCtorEq, Nat.reduceAdd, Nat.reduceMul, Nat.reduceLeDiff, v2, v3, v6, v7, vH0, vH1, hm, e0, e1, z0b, hxn, hid])) | (refine zqd _ rfl ?_ ?_ <;> intro hc <;> (first | (cases hc; done) | ((try simp only [z03] at hc); (try omega)))) | (refine hK _ ?_; clear hK K))
 have hqz := z95 B fb.sz _ hq
 obtain ⟨q0, q1, q2, q3, q4, q5, q6⟩ := (z2o e.1).1 hqz
 obtain ⟨R, hR⟩ : ∃ R, R = zt9 A ((edT B).take i) := ⟨_, rfl⟩
 have hRl : R.length <= 1000000 := by rw [hR]; omega
 (refine z3i (fun U st => ∃ (k : Nat), U = e.1.kids.length - k /\ st.t 2 = .ptr 0 0 /\ st.t 3 = .ptr 1 0 /\ st.t 5 = .osl 2 R.length /\ st.t 6 = z0b (nodesT B) /\ st.t 7 = .int .i64 ((i + 1 : Nat) : Int) /\ st.t 8 = .ptr m 0 /\ st.t 9 = .ptr (m + 1) 0 /\ st.t 12 = .ptr (m + 2) 0 /\ st.t 15 = .osl (m + 3) (zg6 A e.1 k).length /\ st.t 16 = .int .i64 k /\ st.H (0) = some (.box 27 (z06 A)) /\ st.H (1) = some (.box 27 (z06 B)) /\ st.H (2) = some (.row 23 R.length (R.flatMap cellsId)) /\ st.H (m) = some (.box 23 (cellsId e.2.id)) /\ st.H (m + 1) = some (.box 27 (z06 p)) /\ st.H (m + 2) = some (.box 27 (z06 e.1)) /\ st.H (m + 3) = some (.row 23 (zg6 A e.1 k).length (((zg6 A e.1 k).map T.id).flatMap cellsId)) /\ (k <= e.1.kids.length) /\ (m + 4 <= st.nx)) ?_ ?_); rotate_left; (rintro U st ⟨k, rfl, w2, w3, w5, w6, w7, w8, w9, w12, w15, w16, wH0, wH1, wH2, wHm, wHm1, wHm2, wHm3, wp0, wp1⟩); rotate_left
 ·(refine ⟨_, 0, rfl, ?_⟩); (simp (disch := omega) only [go_sem, Nat.reduceBEq, Nat.reduceLeDiff, v2, v3, v5, v6, v7, vH0, vH1, vH2, true_and, Int.natCast_add, Int.natCast_one, Int.natCast_zero, e0, e1, e2, hR])
  exact ⟨rfl, rfl, rfl, Nat.le_refl _⟩
 have f0 := z05 (show 0 < st.nx by omega)
 have f1 := z05 (show 1 < st.nx by omega)
 have f2 := z05 (show 2 < st.nx by omega)
 have f3 := z05 (show m < st.nx by omega)
 have f4 := z05 (show m + 1 < st.nx by omega)
 have f5 := z05 (show m + 2 < st.nx by omega)
 have f6 := z05 (show m + 3 < st.nx by omega)
 have hbl := zxt A e.1 k
 by_cases O : k < e.1.kids.length
 ·have hkq := List.getElem_mem O
  have hsb := zpp (A := A) O
  have c5 := za8 e.1.kids[k].id A fa.sz (by omega)
  cases hkA : z26 e.1.kids[k].id A
  ·have hun : z31 A e.1 e.1.kids[k] = false := by
    unfold z31
    have : (z71 e.1.kids[k].id A).2.2 = false := by
     have h := hkA
     rw [z1k, decide_eq_false_iff_not, <- z57] at h
     unfold z71
     simp [h]
    rw [this]; simp
   rw [hun, if_neg (by decide), List.append_nil] at hsb
   rw [par_O hkA] at c5
   repeat' (first | refine nxt ?_ | ((first | refine zqh fun K hK => ?_ | refine zqe (by decide +kernel) fun K hK => ?_ | refine zqr fun K hK => ?_ | refine zqt (c5) ?_); (simp (disch := omega) only [go_sem, Nat.reduceBEq, Nat.reduceEqDiff, ↓reduceIte, reduceCtorEq, Nat.reduceAdd, Nat.reduceLeDiff, Int.reduceLE, w2, w12, w16, wH0, wHm2, z0b])) | ((first | refine zqd _ rfl (fun hc => ?_) (fun hc => ?_) | refine zqm _ rfl (fun hc => ?_) (fun hc => ?_)) <;> (first | (cases hc; done) | ((try simp only [z03] at hc); (try omega)))) | (refine hK _ ?_; clear hK K))
   (refine Exists.intro _ (And.intro ?_ ⟨k + 1, rfl, ?_⟩)); rotate_left; (simp (disch := omega) only [go_sem, Nat.reduceBEq, Nat.reduceLeDiff, w2, w3, w5, w6, w7, w8, w9, w12, w15, w16, wH0, wH1, wH2, wHm, wHm1, wHm2, wHm3, true_and, Int.natCast_add, Int.natCast_one, f0, f1, f2, f3, f4, f5, f6, hsb]); rotate_left
   ·omega
   ·omega
  ·obtain ⟨r1, r2, r3, r4, r5, j2, hj2, r6, r7⟩ := par_A ba bb hq hkq hkA
   rw [r3] at c5
   obtain ⟨z, hz⟩ : ∃ z, (z38 e.1.kids[k].id A).1 = z := ⟨_, rfl⟩
   rw [hz] at c5 r2
   have hqA : z26 e.1.id A = true := by rw [z1k, decide_eq_true_eq, <- hid]; exact List.mem_map.2 ⟨p, p1, rfl⟩
   by_cases hzq : z.id = e.1.id
   ·have hun : z31 A e.1 e.1.kids[k] = true := by unfold z31; rw [hqA, r4, <- r2, hzq]; simp
    rw [hun, if_pos rfl] at hsb
    repeat' (first | refine nxt ?_ | ((first | refine zqh fun K hK => ?_ | refine zqe (by decide +kernel) fun K hK => ?_ | refine zqr fun K hK => ?_ | refine zqt (c5) ?_); (simp (disch := omega) only [go_sem, Nat.reduceBEq, Nat.reduceEqDiff, ↓reduceIte, reduceCtorEq, Nat.reduceAdd, Nat.reduceMul, Nat.reduceLeDiff, w2, w12, w15, w16, wH0, wHm2, wHm3, f5, f6, z0b, hzq, r5])) | ((first | refine zqd _ rfl (fun hc => ?_) (fun hc => ?_) | refine zqm _ rfl (fun hc => ?_) (fun hc => ?_)) <;> (first | (cases hc; done) | ((try simp only [z03] at hc); (try omega)))) | (refine hK _ ?_; clear hK K))
    (refine Exists.intro _ (And.intro ?_ ⟨k + 1, rfl, ?_⟩)); rotate_left; (simp (disch := omega) only [go_sem, Nat.reduceBEq, Nat.reduceLeDiff, w2, w3, w5, w6, w7, w8, w9, w12, w15, w16, wH0, wH1, wH2, wHm, wHm1, wHm2, wHm3, true_and, Int.natCast_add, Int.natCast_one, List.flatMap_append, List.flatMap_cons, List.flatMap_nil, List.map_append, List.map_cons, List.map_nil, List.append_nil, e0, e1, e2, f0, f1, f2, f3, f4, f5, f6, hsb, cellsId, List.length_append, List.length_cons, List.length_nil]); rotate_left
    ·omega
    ·omega
   ·have hun : z31 A e.1 e.1.kids[k] = false := by unfold z31; rw [<- r2]; simp [hzq]
    rw [hun, if_neg (by decide), List.append_nil] at hsb
    repeat' (first | refine nxt ?_ | ((first | refine zqh fun K hK => ?_ | refine zqe (by decide +kernel) fun K hK => ?_ | refine zqr fun K hK => ?_ | refine zqt (c5) ?_); (simp (disch := omega) only [go_sem, Nat.reduceBEq, Nat.reduceEqDiff, ↓reduceIte, reduceCtorEq, Nat.reduceAdd, Nat.reduceLeDiff, w2, w12, w16, wH0, wHm2, f5, z0b, hzq, r5])) | ((first | refine zqd _ rfl (fun hc => ?_) (fun hc => ?_) | refine zqm _ rfl (fun hc => ?_) (fun hc => ?_)) <;> (first | (cases hc; done) | ((try simp only [z03] at hc); (try omega)))) | (refine hK _ ?_; clear hK K))
    (refine Exists.intro _ (And.intro ?_ ⟨k + 1, rfl, ?_⟩)); rotate_left; (simp (disch := omega) only [go_sem, Nat.reduceBEq, Nat.reduceLeDiff, w2, w3, w5, w6, w7, w8, w9, w12, w15, w16, wH0, wH1, wH2, wHm, wHm1, wHm2, wHm3, true_and, Int.natCast_add, Int.natCast_one, f0, f1, f2, f3, f4, f5, f6, hsb]); rotate_left
    ·omega
    ·omega
 ·have hkk : k = e.1.kids.length := by omega
  subst hkk
  rw [zjq] at w15 wHm3
  have hbl2 : (z3b A e.1).length <= 1000000 := by rw [<- zjq]; omega
  obtain ⟨g1, g2⟩ := zxs ba bb hq p1 hid
  have c6 := zw4 p ((z3b A e.1).map T.id) (z95 A fa.sz _ p1) (by rw [List.length_map]; exact hbl2) (z30 na p1) g1
  rw [g2] at c6
  have hsl : (z2d A e.1).length <= 1000000 := by have h5 := (zdx (A := A) e.1).length_le; rw [List.length_map] at h5; omega
  have c7 := pc_in49 (z2d A e.1) e.2.id hsl
  have hl2 : D.rsl false (z01 prog 23) (z1j (z08 prog 23) (z01 prog 23) (z3b A e.1).length (((z3b A e.1).map T.id).flatMap cellsId)) = z0q ((z3b A e.1).map T.id) := by
   have := z4y (f := cellsId) (sz := 3) (fun _ => rfl) ((z3b A e.1).map T.id)
   rw [List.length_map] at this
   rw [z6l, z8l, this]; rfl
  repeat' (first | refine nxt ?_ | ((refine zqh fun K hK => ?_); (simp (disch := omega) only [go_sem, Nat.reduceBEq, ↓reduceIte, reduceCtorEq, Nat.reduceAdd, w12, w16, wHm2, z0b])) | (refine zqd _ rfl ?_ ?_ <;> intro hc <;> (((try simp only [z03] at hc); (try omega)))) | (refine hK _ ?_; clear hK K))
  refine zqz (zlb _ (zl6 (id := m + 3) (j := 15) (e := 23) (n := (z3b A e.1).length) (cs := ((z3b A e.1).map T.id).flatMap cellsId) (by (simp (disch := omega) only [go_sem, wHm3])) (by decide +kernel) (z15 (fun _ => rfl) _) (by (simp (disch := omega) only [go_sem, Nat.reduceBEq, w15]))) ?_)
  rw [hl2]
  by_cases hs : e.2.id ∈ z2d A e.1
  ·rw [if_neg (fun h => h.2 hs)] at hsn
   rw [<- hR] at hsn
   rw [decide_eq_true hs] at c7
   repeat' (first | ((first | refine zqe (by decide +kernel) fun K hK => ?_ | refine zqr fun K hK => ?_ | refine zqt (c6) ?_ | refine zqt (c7) ?_); (simp (disch := omega) only [go_sem, Nat.reduceBEq, Nat.reduceEqDiff, ↓reduceIte, Nat.reduceAdd, Nat.reduceLeDiff, w7, w8, w9, w15, wHm, wHm1, e0, cellsId])) | ((refine zqm _ rfl (fun hc => ?_) (fun hc => ?_)) <;> (first | (cases hc; done) | ((try simp only [] at hc); (try omega)))) | refine nxt ?_ | (refine hK _ ?_; clear hK K))
   (refine Exists.intro _ (And.intro ?_ ⟨i + 1, rfl, ?_⟩)); rotate_left; (simp (disch := omega) only [go_sem, Nat.reduceBEq, w2, w3, w5, w6, w7, wH0, wH1, wH2, true_and, Int.natCast_add, Int.natCast_one, e0, e1, e2, hsn]); rotate_left
   ·omega
   ·exact ⟨by omega, by omega⟩
  ·rw [if_pos ⟨hA, hs⟩] at hsn
   rw [<- hR] at hsn
   rw [decide_eq_false hs] at c7
   repeat' (first | ((first | refine zqe (by decide +kernel) fun K hK => ?_ | refine zqr fun K hK => ?_ | refine zqt (c6) ?_ | refine zqt (c7) ?_); (simp (disch := omega) only [go_sem, Nat.reduceBEq, Nat.reduceEqDiff, ↓reduceIte, reduceCtorEq, Nat.reduceAdd, Nat.reduceMul, Nat.reduceLeDiff, w5, w7, w8, w9, w15, wH2, wHm, wHm1, e0, e2, cellsId])) | ((refine zqm _ rfl (fun hc => ?_) (fun hc => ?_)) <;> (first | (cases hc; done) | ((try simp only [] at hc); (try omega)))) | refine nxt ?_ | (refine hK _ ?_; clear hK K))
   (refine Exists.intro _ (And.intro ?_ ⟨i + 1, rfl, ?_⟩)); rotate_left; (simp (disch := omega) only [go_sem, Nat.reduceBEq, w2, w3, w5, w6, w7, wH0, wH1, wH2, true_and, Int.natCast_add, Int.natCast_one, List.flatMap_append, List.flatMap_cons, List.flatMap_nil, List.append_nil, e0, e1, e2, hsn, cellsId, List.length_append, List.length_cons, List.length_nil]); rotate_left
   ·omega
   ·exact ⟨by omega, by omega⟩
namespace Tr
def TTz : TT := .mk 0 0 Idv.zero ByteArray.empty ByteArray.empty false [] [] []
theorem mvd_len (A B : T) : (zg4 A B).length <= cntT B := by
 unfold zg4
 rw [List.length_map]
 have h1 := List.length_filter_le (fun e : T × T => z26 e.2.id A && !decide (e.2.id ∈ z2d A e.1)) (edT B)
 have h2 := congrArg List.length (zhv B)
 rw [List.length_cons, List.length_map] at h2
 unfold cntT
 omega
theorem two_of {A B : T} (fa : Fit50 A) (fb : Fit50 B) (h : zag A B = true) : Two50 A B (zg4 A B) where
 hA := fa.sz
 hB := fb.sz
 hm := Nat.le_trans (mvd_len A B) fb.cnt
 bk := zlh h
 wA := fun x hx => (z8u ((zfo A B).1 h).1 hx).2.1
 wB := fun x hx => (z8u ((zfo A B).1 h).2.1 hx).2.1
end Tr
namespace Abs
def zeroTwo : List D := [D.int .i64 0, D.int .i64 0, D.int .i64 0, D.int .i64 0, D.str ByteArray.empty, D.nil, D.nil, D.nil, D.int .i64 0, D.int .i64 0, D.int .i64 0, D.int .i64 0, D.str ByteArray.empty, D.nil, D.nil, D.nil, D.nil]
@[go_sem] theorem zeroTwo_T : z19 prog 59 = some zeroTwo := zeroT59
def tw1 (A : T) : List D := z14 zeroTwo 0 (z06 A)
def tw2 (A B : T) : List D := z14 (tw1 A) 8 (z06 B)
@[go_sem] theorem tw1_eq (A : T) : z14 zeroTwo 0 (z06 A) = tw1 A := rfl
@[go_sem] theorem tw2_eq (A B : T) : z14 (tw1 A) 8 (z06 B) = tw2 A B := rfl
theorem tw3_eq (A B : T) (ms : List Idv) : z14 (tw2 A B) 16 [z0q ms] = z1i A B ms := by
 rw [tw2, tw1, z4v, z0n, z0n, zeroTwo]; simp only [z14, List.set_cons_zero, List.set_cons_succ]
@[go_sem] theorem tw3_set (A B : T) (ms : List Idv) : (tw2 A B).set 16 (z0q ms) = z1i A B ms := tw3_eq A B ms
@[go_sem] theorem tw0_len : zeroTwo.length = 17 := rfl
@[go_sem] theorem tw1_len (A : T) : (tw1 A).length = 17 := by simp only [tw1, z2n, tw0_len]
@[go_sem] theorem tw2_len (A B : T) : (tw2 A B).length = 17 := by simp only [tw2, z2n, tw1_len]
end Abs
set_option maxHeartbeats 16000000 in
theorem pc_Of50 (A B : T) (fa : Fit50 A) (fb : Fit50 B) : PC prog 9 [z1f A, z1f B] (.tup [z58 (if zag A B = true then znh A B else TTz), .int .i64 (if zag A B = true then 0 else 1)]) := by
 have c1 := z001 A B fa fb
 refine z2f 3 (by simp only [pureD.pureL, z0a, Bool.and_self]) (by simp only [pureD, pureD.pureL, z2j, Bool.and_self]) (z23 [] func9 rfl (by decide +kernel) rfl ?_)
 show awp _ _ (Code.seq _ _) _ _
 rw [show Tryz.f9.results.toList = [.cell 4 33, .tmp 5] from rfl]
 cases hc : zag A B
 ·rw [hc] at c1
  rw [if_neg (by decide), if_neg (by decide)]
  repeat' (first | refine nxt ?_ | ((first | refine zqh fun K hK => ?_ | refine zqs (c1) ?_); (simp (disch := omega) only [go_sem, Nat.reduceBEq, ↓reduceIte, Nat.reduceAdd, Nat.reduceLeDiff])) | (refine zqd _ rfl ?_ ?_ <;> intro hc <;> (first | (cases hc; done) | ((try simp only [] at hc); (try omega)))) | refine zqu (by (simp (disch := omega) only [go_sem, Nat.reduceBEq, ↓reduceIte, Nat.reduceAdd, Nat.reduceLeDiff]); rfl) rfl ?_ | (refine hK _ ?_; clear hK K))
  refine z18 (nx := 0) rfl ?_
  rw [z58, z10]
  exact Le.tup ⟨Le.agg ⟨Le.refl _, Le.refl _, Le.refl _, Le.refl _, Le.refl _, Le.refl _, Le.refl _, Le.refl _, Le.nil 2, Le.nil 2, Le.nil 11, trivial⟩, Le.refl _, trivial⟩
 ·rw [hc] at c1
  rw [if_pos rfl, if_pos rfl]
  have c2 := zpq A B fa fb hc
  have c3 := zr6 A B (zg4 A B) (two_of fa fb hc) B (z09 B) fb.sz
  have V : z2l A B (fun i => decide (i ∈ zg4 A B)) B = znh A B := rfl
  rw [V] at c3
  have h3 : (tw2 A B).set 16 (.rsl false 3 ((zg4 A B).map z48)) = z1i A B (zg4 A B) := tw3_eq A B _
  repeat' (first | refine nxt ?_ | ((first | refine zqh fun K hK => ?_ | refine zqe (by decide +kernel) fun K hK => ?_ | refine zqs (c1) ?_ | refine zqt (c2) ?_ | refine zqt (c3) ?_); (simp (disch := omega) only [go_sem, Nat.reduceBEq, ↓reduceIte, Nat.reduceAdd, Nat.reduceLeDiff, z0q, h3])) | (refine zqd _ rfl ?_ ?_ <;> intro hc <;> (first | (cases hc; done) | ((try simp only [] at hc); (try omega)))) | refine zqu (by (simp (disch := omega) only [go_sem, Nat.reduceBEq, ↓reduceIte, Nat.reduceLeDiff]); rfl) rfl ?_ | (refine hK _ ?_; clear hK K))
  refine z18 (nx := 0) (by simp only [pureD.pureL, pureD, z32, Bool.and_self]) ?_
  exact Le.refl _
end
end Go.Proofs.YtfechgagcgbldaaGreatDoor
namespace Go.Proofs.YtfechgagcgbldaaGreatDoor.Tr
open Abs
theorem zjg (a b : List ByteArray) : (z3h a b).length <= a.length + b.length := by
 have h := zih (ga := stW 2) (gb := stW 1) (gs := fun s _ => stW 0 s) (Lcs.pairs a b) 0 0 (zbx _ 0 0 (z35 a b) (Nat.zero_le _) (Nat.zero_le _))
 unfold z3h
 omega
theorem zbz (l : List Wd) : (txt l).length = l.length := by unfold txt; rw [List.length_map]
theorem gone_sz (B : T) : ∀ u : T, szB u = true -> szTT (z3e B u) = true := by
 refine z50 fun u ih hs => ?_
 obtain ⟨h0, h1, g1, h2, g2, h3, h4⟩ := (z2o u).1 hs
 rw [zdq]
 split
 ·rfl
 ·rw [zhz]
  refine ⟨h0, Nat.zero_le _, ?_, ?_, ?_, fun k O => ?_⟩
  ·show ((txt u.head).map (stW 2)).length <= _; rw [List.length_map, zbz]; omega
  ·show ((txt u.words).map (stW 2)).length <= _; rw [List.length_map, zbz]; omega
  ·show (u.kids.map (z3e B)).length <= _; rw [List.length_map]; omega
  ·obtain ⟨y, hy, rfl⟩ := List.mem_map.1 (show k ∈ u.kids.map (z3e B) from O)
   exact ih y hy (h4 y hy)
theorem find_sz {A : T} (hA : szB A = true) (i : Idv) : szB (findR i A).1 = true := by
 cases h : z26 i A with
 | true => exact z95 A hA _ (z3o (id := i) (u := A) h)
 | false =>
  have : (findR i A).1 = T.zero := by
   unfold z26 findR at h
   unfold findR
   split at h
   ·cases h
   ·rfl
  rw [this]; decide +kernel
theorem zxg {A B : T} {mv : Idv -> Bool} (hA : szB A = true) : ∀ u : T, szB u = true -> szTT (z2l A B mv u) = true := by
 refine z50 fun u ih hs => ?_
 obtain ⟨h0, h1, g1, h2, g2, h3, h4⟩ := (z2o u).1 hs
 obtain ⟨x0, x1, y1, x2, y2, x3, x4⟩ := (z2o _).1 (find_sz hA u.id)
 rw [z8d, zhz]
 refine ⟨h0, ?_, ?_, ?_, ?_, fun k O => ?_⟩
 ·show (if _ then _ else ByteArray.empty).size <= _
  split
  ·exact x0
  ·exact Nat.zero_le _
 ·refine Nat.le_trans (zjg _ _) ?_; rw [zbz, zbz]; omega
 ·refine Nat.le_trans (zjg _ _) ?_; rw [zbz, zbz]; omega
 ·show (mg _ _ _ _).length <= _
  rw [(z9x _ _ _ _).length_eq, List.length_append, List.length_map, List.length_map, List.length_map]
  have := List.length_filter_le (fun x : T => !stayB A B mv x.id) (findR u.id A).1.kids
  omega
 ·have O : k ∈ mg (stayB A B mv) (z3e B) (findR u.id A).1.kids (u.kids.map fun k => (k.id, z2l A B mv k)) := O
  rw [(z9x _ _ _ _).mem_iff, List.mem_append, List.map_map] at O
  rcases O with O | O
  ·obtain ⟨y, hy, rfl⟩ := List.mem_map.1 O
   exact gone_sz B y (x4 y (List.mem_filter.1 hy).1)
  ·obtain ⟨y, hy, rfl⟩ := List.mem_map.1 O
   exact ih y hy (h4 y hy)
theorem diff_sz {A B : T} (hA : szB A = true) (hB : szB B = true) : szTT (znh A B) = true := zxg hA B hB
end Go.Proofs.YtfechgagcgbldaaGreatDoor.Tr
namespace Go.Proofs.YtfechgagcgbldaaGreatDoor
open _root_.Go.Proofs.Tryz
section
open Abs Facts Tr
attribute [local irreducible] awp
set_option maxRecDepth 100000
theorem zje (l : List Tw) (hl : l.length <= 2000000) : PC prog 26 [z0k l, z0k l] (.bool true) := by
 refine z2f 1 (by simp only [pureD.pureL, z1m, Bool.and_self]) rfl (z23 [] func26 rfl (by decide +kernel) rfl ?_)
 show awp _ _ (Code.seq _ _) _ _
 repeat' (first | refine nxt ?_ | ((refine zqh fun K hK => ?_); (simp (disch := omega) only [go_sem, Nat.reduceBEq, ↓reduceIte, z0k])) | (refine zqd _ rfl ?_ ?_ <;> intro hc <;> (first | (cases hc; done) | ((try simp only [] at hc); (try omega)))) | (refine hK _ ?_; clear hK K))
 (refine z3i (fun U st => ∃ (n : Nat), U = l.length - n /\ st.t 0 = z0k l /\ st.t 1 = z0k l /\ st.t 5 = .int .i64 n /\ (n <= l.length)) ?_ ?_); rotate_left; (rintro U st ⟨n, rfl, v0, v1, v5, vp0⟩); rotate_left
 ·(refine ⟨_, 0, rfl, ?_⟩); (simp (disch := omega) only [go_sem, Nat.reduceBEq, and_self, Int.natCast_zero, z0k])
 by_cases hi : n < l.length
 ·repeat' (first | refine nxt ?_ | ((first | refine zqh fun K hK => ?_ | refine zqe (by decide +kernel) fun K hK => ?_ | refine zqr fun K hK => ?_); (simp (disch := omega) only [go_sem, Nat.reduceBEq, ↓reduceIte, reduceCtorEq, Nat.reduceAdd, v0, v1, v5, z0k, zm8, z1q])) | ((first | refine zqd _ rfl (fun hc => ?_) (fun hc => ?_) | refine zqm _ rfl (fun hc => ?_) (fun hc => ?_)) <;> (first | (cases hc; done) | ((try simp only [z03] at hc); (try omega)))) | (refine hK _ ?_; clear hK K))
  (refine Exists.intro _ (And.intro ?_ ⟨n + 1, rfl, ?_⟩)); rotate_left; (simp (disch := omega) only [go_sem, Nat.reduceBEq, v0, v1, v5, true_and, Int.natCast_add, Int.natCast_one]); rotate_left
  ·omega
  ·omega
 ·repeat' (first | refine nxt ?_ | ((refine zqh fun K hK => ?_); (simp (disch := omega) only [go_sem, Nat.reduceBEq, ↓reduceIte, v0, v5, z0k])) | (refine zqd _ rfl ?_ ?_ <;> intro hc <;> (((try simp only [z03] at hc); (try omega)))) | refine zqz ?_ | refine zqu (by simp only [go_sem]; rfl) rfl ?_ | (refine hK _ ?_; clear hK K))
  exact z00 rfl
set_option maxHeartbeats 16000000 in
theorem zjf : ∀ t : TT, szTT t = true -> PC prog 10 [z58 t, z58 t] (.bool true) := by
 refine tind1 fun t ih hs => ?_
 obtain ⟨h0, h00, h1, h2, h3, h4⟩ := (zhz t).1 hs
 have hmm : (t.moved != t.moved) = false := by simp
 have c1 := zje t.head h1
 have c2 := zje t.words h2
 refine z2f 1 (by simp only [pureD.pureL, z2j, Bool.and_self]) rfl (z23 [] func10 rfl (by decide +kernel) rfl ?_)
 show awp _ _ (Code.seq _ _) _ _
 repeat' (first | refine nxt ?_ | ((first | refine zqh fun K hK => ?_ | refine zqs (c1) ?_ | refine zqs (c2) ?_); (simp (disch := omega) only [go_sem, Nat.reduceBEq, ↓reduceIte, reduceCtorEq, Nat.reduceAdd, Nat.reduceLeDiff, List.append_eq, List.cons_append, List.nil_append, List.map_cons, List.map_nil, z88, hmm, Bool.false_eq_true])) | (refine zqd _ rfl ?_ ?_ <;> intro hc <;> (first | (cases hc; done) | ((try simp only [] at hc); (try omega)))) | (refine hK _ ?_; clear hK K))
 (refine z3i (fun U st => ∃ (n : Nat), U = t.kids.length - n /\ st.t 2 = .ptr 0 0 /\ st.t 3 = .ptr 1 0 /\ st.t 5 = .int .i64 n /\ st.H (0) = some (.box 33 (z0p t)) /\ st.H (1) = some (.box 33 (z0p t)) /\ (n <= t.kids.length)) ?_ ?_); rotate_left; (rintro U st ⟨n, rfl, v2, v3, v5, vH0, vH1, vp0⟩); rotate_left
 ·(refine ⟨_, 0, rfl, ?_⟩); (simp (disch := omega) only [go_sem, Nat.reduceBEq, and_self, Int.natCast_zero])
 by_cases hi : n < t.kids.length
 ·have hin := ih _ (List.getElem_mem hi) (h4 _ (List.getElem_mem hi))
  repeat' (first | refine nxt ?_ | ((first | refine zqh fun K hK => ?_ | refine zqe (by decide +kernel) fun K hK => ?_ | refine zqr fun K hK => ?_ | refine zqt (hin) ?_); (simp (disch := omega) only [go_sem, Nat.reduceBEq, ↓reduceIte, reduceCtorEq, Nat.reduceAdd, v2, v3, v5, vH0, vH1, z88])) | ((first | refine zqd _ rfl (fun hc => ?_) (fun hc => ?_) | refine zqm _ rfl (fun hc => ?_) (fun hc => ?_)) <;> (first | (cases hc; done) | ((try simp only [z03] at hc); (try omega)))) | (refine hK _ ?_; clear hK K))
  (refine Exists.intro _ (And.intro ?_ ⟨n + 1, rfl, ?_⟩)); rotate_left; (simp (disch := omega) only [go_sem, Nat.reduceBEq, v2, v3, v5, vH0, vH1, true_and, Int.natCast_add, Int.natCast_one]); rotate_left
  ·omega
  ·omega
 ·repeat' (first | refine nxt ?_ | ((refine zqh fun K hK => ?_); (simp (disch := omega) only [go_sem, Nat.reduceBEq, ↓reduceIte, reduceCtorEq, Nat.reduceAdd, v2, v5, vH0, z88])) | (refine zqd _ rfl ?_ ?_ <;> intro hc <;> (((try simp only [z03] at hc); (try omega)))) | refine zqz ?_ | refine zqu (by simp only [go_sem]; rfl) rfl ?_ | (refine hK _ ?_; clear hK K))
  exact z00 rfl
theorem zup {t : T} {most : Int} (h0 : 0 <= most) (h1 : most <= 1000) (h : zsb t most = true) : Fit50 t := by
 obtain ⟨a, b, c⟩ := few_sz h0 h1 h
 exact ⟨a, by omega, by omega⟩
theorem zmv (a b : T) (hfa : zgq a = true) (hfb : zgq b = true) : PC prog 3 [z1f a, z1f b] (.bool true) := by
 have c1 := zq7
 have c2 := zyh a b hfa hfb
 refine z2f 1 (by simp only [pureD.pureL, z0a, Bool.and_self]) rfl (z23 [] func3 rfl (by decide +kernel) rfl ?_)
 show awp _ _ (Code.seq _ _) _ _
 cases h : zsb a 30 && zsb b 30
 ·rw [h] at c2
  repeat' (first | refine nxt ?_ | ((first | refine zqh fun K hK => ?_ | refine zqs (c1) ?_ | refine zqs (c2) ?_); (simp (disch := omega) only [go_sem, Nat.reduceBEq, ↓reduceIte, Nat.reduceAdd, Nat.reduceLeDiff])) | (refine zqd _ rfl ?_ ?_ <;> intro hc <;> (first | (cases hc; done) | ((try simp only [] at hc); (try omega)))) | refine zqu (by simp only [go_sem]; rfl) rfl ?_ | (refine hK _ ?_; clear hK K))
  exact z00 rfl
 ·rw [h] at c2
  rw [Bool.and_eq_true] at h
  have fa := zup (by omega) (by omega) h.1
  have fb := zup (by omega) (by omega) h.2
  have c3 := zms a b fa fb
  have c4 := pc_Of50 a b fa fb
  cases hc : zag a b
  ·have e1 : zdm a b = (TTz, 1) := by unfold zdm; rw [if_neg (by rw [hc]; decide)]; rfl
   rw [e1] at c3
   rw [hc, if_neg (by decide), if_neg (by decide)] at c4
   have c5 := zjf TTz (by decide +kernel)
   repeat' (first | refine nxt ?_ | ((first | refine zqh fun K hK => ?_ | refine zqs (c1) ?_ | refine zqs (c2) ?_ | refine zqs (c3) ?_ | refine zqs (c4) ?_ | refine zqs (c5) ?_); (simp (disch := omega) only [go_sem, Nat.reduceBEq, ↓reduceIte, Nat.reduceAdd, Nat.reduceLeDiff])) | (refine zqd _ rfl ?_ ?_ <;> intro hc <;> (first | (cases hc; done) | ((try simp only [] at hc); (try omega)))) | refine zqu (by simp only [go_sem]; rfl) rfl ?_ | (refine hK _ ?_; clear hK K))
   exact z00 rfl
  ·have e1 : zdm a b = (znh a b, 0) := by unfold zdm; rw [if_pos hc]
   rw [e1] at c3
   rw [hc, if_pos rfl, if_pos rfl] at c4
   have c5 := zjf (znh a b) (diff_sz fa.sz fb.sz)
   repeat' (first | refine nxt ?_ | ((first | refine zqh fun K hK => ?_ | refine zqs (c1) ?_ | refine zqs (c2) ?_ | refine zqs (c3) ?_ | refine zqs (c4) ?_ | refine zqs (c5) ?_); (simp (disch := omega) only [go_sem, Nat.reduceBEq, ↓reduceIte, Nat.reduceAdd, Nat.reduceLeDiff])) | (refine zqd _ rfl ?_ ?_ <;> intro hc <;> (first | (cases hc; done) | ((try simp only [] at hc); (try omega)))) | refine zqu (by simp only [go_sem]; rfl) rfl ?_ | (refine hK _ ?_; clear hK K))
   exact z00 rfl
end
end Go.Proofs.YtfechgagcgbldaaGreatDoor
