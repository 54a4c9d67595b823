/-
  The walk of made. No condition but lengths.
-/
import Derived.Test.YtjibdljdkgedcaaTopo
import Derived.Test.YtjibdljdkgedcaaAbs19
set_option maxRecDepth 100000
set_option maxHeartbeats 8000000
set_option linter.unusedSimpArgs false
set_option linter.unusedVariables false
namespace Go.Proofs.Ytjibdljdkgedcaa
open Abs Facts Topo
attribute [local irreducible] awp
theorem okP_iff (n : Int) (p : Pr) : okP n p = true ↔ 0 ≤ p.1 ∧ p.1 < n ∧ 0 ≤ p.2 ∧ p.2 < n := by simp [okP]
theorem edges_snoc (l : List Pr) (p : Pr) : edges (l ++ [p]) = addE (edges l) p := by simp [edges]
theorem takeWhile_all {α : Type} (f : α → Bool) : ∀ l : List α, l.all f = true → l.takeWhile f = l
  | [], _ => rfl
  | x :: l, h => by
    simp only [List.all_cons, Bool.and_eq_true] at h
    rw [List.takeWhile_cons, if_pos h.1, takeWhile_all f l h.2]
theorem takeWhile_stop {α : Type} (f : α → Bool) : ∀ (l : List α) (i : Nat) (h : i < l.length), (l.take i).all f = true → f l[i] = false → l.takeWhile f = l.take i ∧ l.all f = false
  | x :: l, 0, _, _, hf => by
    simp only [List.getElem_cons_zero] at hf
    simp [List.takeWhile_cons, hf]
  | x :: l, i + 1, h, ha, hf => by
    simp only [List.take_succ_cons, List.all_cons, Bool.and_eq_true, List.getElem_cons_succ] at ha hf
    obtain ⟨h1, h2⟩ := takeWhile_stop f l i (by simpa using h) ha.2 hf
    rw [List.takeWhile_cons, if_pos ha.1, h1, List.all_cons, h2, Bool.and_false]
    exact ⟨rfl, rfl⟩
theorem fin_made {P : Program} {H : HM} {nx : Nat} {n W : Int} {l : List Pr} {G : List Nat} (hG : G = graphL n l) (hW : W = wrong n l) :
    Abs.Fin P 3 (.tup [.agg (cellsG n (graphL n l)), .int .i64 (wrong n l)]) (.tup [.agg (cellsG n G), .int .i64 W]) H nx := by
  subst hG; subst hW
  exact fin_pure (by simp only [pureD, pureD.pureL, pure_cellsG, Bool.and_self]) (Le.refl _)
theorem made_bad {n : Int} {l : List Pr} (h0 : ¬ (n < 0 ∨ 16 < n)) {i : Nat} (h : i < l.length) (ha : (l.take i).all (okP n) = true) (hp : ¬ (0 ≤ l[i].1 ∧ l[i].1 < n ∧ 0 ≤ l[i].2 ∧ l[i].2 < n)) :
    edges (l.take i) = graphL n l ∧ 1 = wrong n l := by
  obtain ⟨h1, h2⟩ := takeWhile_stop (okP n) l i h ha (by rw [← Bool.not_eq_true, okP_iff]; exact hp)
  unfold graphL wrong
  rw [if_neg h0, if_neg h0, h1, h2]
  exact ⟨rfl, rfl⟩
theorem made_good {n : Int} {l : List Pr} (h0 : ¬ (n < 0 ∨ 16 < n)) (ha : l.all (okP n) = true) : edges l = graphL n l ∧ (if 64 < l.length then 6 else 0) = wrong n l := by
  unfold graphL wrong
  rw [if_neg h0, if_neg h0, takeWhile_all _ _ ha, if_pos ha]
  exact ⟨rfl, rfl⟩
theorem pc_made (n : Int) (l : List Pr) (hl : l.length ≤ maxLen) : PC Try.prog 24 [.int .i64 n, encPs l] (.tup [.agg (cellsG n (graphL n l)), .int .i64 (wrong n l)]) := by
  have hg : (graphL n l).length = 16 := graphL_length n l
  refine PC_intro 3 (by simp only [pureD.pureL, pure_encPs, pureD, Bool.and_self]) (by simp only [pureD, pureD.pureL, pure_cellsG, Bool.and_self]) (AC_intro [] Try.func24 rfl (by decide +kernel) mixed (by decide +kernel) (by simp [Try.ntmps24]) ?_)
  show awp _ _ (Code.seq _ _) _ _
  rw [show Try.f24.results.toList = [.cell 4 51, .tmp 5] from rfl]
  have hz := zeros_length
  unfold maxLen at hl
  repeat' (first | refine awp_assoc ?_ | ((first | refine awp_seq_reg fun K hK => ?_ | refine awp_seq_draw (by decide +kernel) fun K hK => ?_ | refine awp_reg' fun K hK => ?_ | refine awp_draw' (by decide +kernel) fun K hK => ?_); (simp (disch := omega) only [go_sem, Nat.reduceBEq, Nat.reduceBeqDiff, Nat.reduceEqDiff, ↓reduceIte, reduceCtorEq, Nat.reduceAdd, Nat.reduceMul, Nat.reduceLeDiff, Nat.reduceLT, Int.reduceLT, Int.reduceLE, Int.reduceEq, encPs, cellsG_take, cellsG_splice, cellsG_getS])) | ((first | refine awp_seq_cond _ rfl (fun hc => ?_) (fun hc => ?_) | refine awp_cond _ rfl (fun hc => ?_) (fun hc => ?_)) <;> (first | (cases hc; done) | ((try simp only [decide_eq_true_eq, decide_eq_false_iff_not, Classical.not_not, beq_iff_eq, beq_eq_false_iff_ne, bne_iff_ne, ne_eq, Bool.not_eq_true', Bool.not_eq_false', Bool.and_eq_true, Bool.or_eq_true, Bool.and_eq_false_imp, Bool.or_eq_false_iff, Bool.not_eq_true, Bool.not_eq_false] at hc); (try (exfalso; omega))))) | refine awp_seq_block ?_ | refine awp_block ?_ | refine awp_seq_skip ?_ | refine awp_seq_ret ?_ | refine awp_seq_exit ?_ | refine awp_skip ?_ | refine awp_exit ?_ | refine awp_ret ?_ | refine seqK_n ?_ | refine seqK_e ?_ | refine seqK_r ?_ | refine blkK_n ?_ | refine blkK_e ?_ | refine blkK_o rfl ?_ | refine blkK_r ?_ | refine loopK_e ?_ | refine loopK_r ?_ | refine retQ_E (by (simp (disch := omega) only [go_sem, Nat.reduceBEq, Nat.reduceBeqDiff, Nat.reduceEqDiff, ↓reduceIte, reduceCtorEq, Nat.reduceAdd, Nat.reduceMul, Nat.reduceLeDiff, Nat.reduceLT, Int.reduceLT, Int.reduceLE, Int.reduceEq, encPs, cellsG_take, cellsG_splice, cellsG_getS]); rfl) rfl ?_ | (refine hK _ ?_; clear hK K) | (refine stepG_split (fun hb => ?_) (fun hb => ?_) <;> (have hb2 := hb; try simp only [decide_eq_true_eq, decide_eq_false_iff_not, Classical.not_not, beq_iff_eq, beq_eq_false_iff_ne, bne_iff_ne, ne_eq, Bool.not_eq_true', Bool.not_eq_false', Bool.and_eq_true, Bool.or_eq_true, Bool.and_eq_false_imp, Bool.or_eq_false_iff, Bool.not_eq_true, Bool.not_eq_false] at hb2) <;> ((first | have hb3 : (_ : Bool) = _ := hb2 | have hb3 := eq_false hb2 | have hb3 := eq_true hb2); (simp (disch := omega) only [go_sem, Nat.reduceBEq, Nat.reduceBeqDiff, Nat.reduceEqDiff, ↓reduceIte, reduceCtorEq, Nat.reduceAdd, Nat.reduceMul, Nat.reduceLeDiff, Nat.reduceLT, Int.reduceLT, Int.reduceLE, Int.reduceEq, hb, hb3, encPs, cellsG_take, cellsG_splice, cellsG_getS]); clear hb hb3; (try (exfalso; omega)))) | (exfalso; omega))
  · refine fin_made ?_ ?_
    · unfold graphL; rw [if_pos (.inr (by assumption))]; rfl
    · unfold wrong; rw [if_pos (.inr (by assumption))]
  · (refine awp_loop' (fun mz st => ∃ (i : _), mz = l.length - i ∧ st.t 0 = .int .i64 n ∧ st.t 1 = encPs l ∧ st.t 4 = .ptr 0 0 ∧ st.t 6 = .ptr 1 0 ∧ st.t 18 = encPs l ∧ st.t 19 = .int .i64 l.length ∧ st.t 20 = .int .i64 i ∧ st.H 0 = some (.box 51 (cellsG 0 zeros)) ∧ st.H 1 = some (.box 51 (cellsG n (edges (l.take i)))) ∧ (i ≤ l.length) ∧ ((l.take i).all (okP n) = true) ∧ (2 ≤ st.nx)) ?_ ?_); rotate_left; (rintro mz st ⟨i, rfl, s0, s1, s4, s6, s18, s19, s20, sH0, sH1, sp0, sp1, sp2⟩); rotate_left
    · (refine ⟨_, 0, rfl, ?_⟩); (simp (disch := omega) only [go_sem, Nat.reduceBEq, Nat.reduceBeqDiff, Nat.reduceEqDiff, ↓reduceIte, reduceCtorEq, Nat.reduceAdd, Nat.reduceMul, Nat.reduceLeDiff, Nat.reduceLT, Int.reduceLT, Int.reduceLE, Int.reduceEq, true_and, and_true, and_self, Int.natCast_add, Int.natCast_one, Int.natCast_zero, List.flatMap_nil, List.map_nil, List.append_nil, List.nil_append, encPs])
      simp [edges, zeros]
    have hgl := edges_length (l.take i)
    repeat' (first | refine awp_assoc ?_ | ((first | refine awp_seq_reg fun K hK => ?_ | refine awp_seq_draw (by decide +kernel) fun K hK => ?_ | refine awp_reg' fun K hK => ?_ | refine awp_draw' (by decide +kernel) fun K hK => ?_); (simp (disch := omega) only [go_sem, Nat.reduceBEq, Nat.reduceBeqDiff, Nat.reduceEqDiff, ↓reduceIte, reduceCtorEq, Nat.reduceAdd, Nat.reduceMul, Nat.reduceLeDiff, Nat.reduceLT, Int.reduceLT, Int.reduceLE, Int.reduceEq, s0, s1, s4, s6, s18, s19, s20, sH0, sH1, encPs, encP, cellsG_take, cellsG_splice, cellsG_getS, shlU, bits_or])) | ((first | refine awp_seq_cond _ rfl (fun hc => ?_) (fun hc => ?_) | refine awp_cond _ rfl (fun hc => ?_) (fun hc => ?_)) <;> (first | (cases hc; done) | ((try simp only [decide_eq_true_eq, decide_eq_false_iff_not, Classical.not_not, beq_iff_eq, beq_eq_false_iff_ne, bne_iff_ne, ne_eq, Bool.not_eq_true', Bool.not_eq_false', Bool.and_eq_true, Bool.or_eq_true, Bool.and_eq_false_imp, Bool.or_eq_false_iff, Bool.not_eq_true, Bool.not_eq_false] at hc); (try (exfalso; omega))))) | refine awp_seq_block ?_ | refine awp_block ?_ | refine awp_seq_skip ?_ | refine awp_seq_ret ?_ | refine awp_seq_exit ?_ | refine awp_skip ?_ | refine awp_exit ?_ | refine awp_ret ?_ | refine seqK_n ?_ | refine seqK_e ?_ | refine seqK_r ?_ | refine blkK_n ?_ | refine blkK_e ?_ | refine blkK_o rfl ?_ | refine blkK_r ?_ | refine loopK_e ?_ | refine loopK_r ?_ | refine retQ_E (by (simp (disch := omega) only [go_sem, Nat.reduceBEq, Nat.reduceBeqDiff, Nat.reduceEqDiff, ↓reduceIte, reduceCtorEq, Nat.reduceAdd, Nat.reduceMul, Nat.reduceLeDiff, Nat.reduceLT, Int.reduceLT, Int.reduceLE, Int.reduceEq, s0, s1, s4, s6, s18, s19, s20, sH0, sH1, encPs, encP, cellsG_take, cellsG_splice, cellsG_getS, shlU, bits_or]); rfl) rfl ?_ | (refine hK _ ?_; clear hK K) | (refine stepG_split (fun hb => ?_) (fun hb => ?_) <;> (have hb2 := hb; try simp only [decide_eq_true_eq, decide_eq_false_iff_not, Classical.not_not, beq_iff_eq, beq_eq_false_iff_ne, bne_iff_ne, ne_eq, Bool.not_eq_true', Bool.not_eq_false', Bool.and_eq_true, Bool.or_eq_true, Bool.and_eq_false_imp, Bool.or_eq_false_iff, Bool.not_eq_true, Bool.not_eq_false] at hb2) <;> ((first | have hb3 : (_ : Bool) = _ := hb2 | have hb3 := eq_false hb2 | have hb3 := eq_true hb2); (simp (disch := omega) only [go_sem, Nat.reduceBEq, Nat.reduceBeqDiff, Nat.reduceEqDiff, ↓reduceIte, reduceCtorEq, Nat.reduceAdd, Nat.reduceMul, Nat.reduceLeDiff, Nat.reduceLT, Int.reduceLT, Int.reduceLE, Int.reduceEq, hb, hb3, s0, s1, s4, s6, s18, s19, s20, sH0, sH1, encPs, encP, cellsG_take, cellsG_splice, cellsG_getS, shlU, bits_or]); clear hb hb3; (try (exfalso; omega)))) | (exfalso; omega))
    all_goals first
      | (have hi : i < l.length := by omega
         have hb := made_bad (n := n) (l := l) (by omega) hi (by assumption) (by omega)
         exact fin_made hb.1 hb.2)
      | (have hi : l.take i = l := List.take_of_length_le (by omega)
         rw [hi] at sp1 ⊢
         have hb := made_good (n := n) (l := l) (by omega) sp1
         refine fin_made hb.1 (Eq.trans ?_ hb.2)
         first | rw [if_pos (by omega)] | rw [if_neg (by omega)])
      | skip
    (refine Exists.intro _ (And.intro ?_ ⟨i + 1, rfl, ?_⟩)); rotate_left; (simp (disch := omega) only [go_sem, Nat.reduceBEq, Nat.reduceBeqDiff, Nat.reduceEqDiff, ↓reduceIte, reduceCtorEq, Nat.reduceAdd, Nat.reduceMul, Nat.reduceLeDiff, Nat.reduceLT, Int.reduceLT, Int.reduceLE, Int.reduceEq, s0, s1, s4, s6, s18, s19, s20, sH0, sH1, true_and, and_true, and_self, Int.natCast_add, Int.natCast_one, Int.natCast_zero, List.flatMap_append, List.flatMap_cons, List.flatMap_nil, List.map_append, List.map_cons, List.map_nil, List.append_nil, List.cons_append, List.nil_append]); rotate_left
    · omega
    · have hi : i < l.length := by omega
      rw [List.take_succ_eq_append_getElem hi, edges_snoc]
      refine ⟨rfl, by omega, ?_, by omega⟩
      rw [List.all_append, sp1, List.all_cons, (okP_iff n l[i]).2 (by omega)]; rfl
  · refine fin_made ?_ ?_
    · unfold graphL; rw [if_pos (.inl (by assumption))]; rfl
    · unfold wrong; rw [if_pos (.inl (by assumption))]
end Go.Proofs.Ytjibdljdkgedcaa
