/-
 The walks of the reference's short, words, size, Few. No condition but lengths.
-/
import Derived.Test.YtkhjpcmpljpmjaaGreatDoorTree
set_option maxRecDepth 100000
set_option maxHeartbeats 8000000
set_option linter.unusedSimpArgs false
set_option linter.unusedVariables false
namespace Go.Proofs.YtkhjpcmpljpmjaaGreatDoor
open Abs Facts Tr
attribute [local irreducible] awp
namespace Tr
def shortB (l : List Wd) : Bool := l.all (fun w => decide (w.text.size ≤ 100)) && decide (l.length ≤ 300)
def wordsB (t : T) : Bool := recT (fun t l => decide (t.label.size ≤ 30) && (shortB t.head && (shortB t.words && l.all id))) t
theorem wordsB_eq (t : T) : wordsB t = (decide (t.label.size ≤ 30) && (shortB t.head && (shortB t.words && t.kids.all wordsB))) := by
 unfold wordsB
 rw [recT_eq, List.all_map]; rfl
theorem all_no {α : Type} {f : α → Bool} {l : List α} {k : Nat} (hk : k < l.length) (h : f l[k] = false) : l.all f = false := List.all_eq_false.2 ⟨_, List.getElem_mem hk, by simp [h]⟩
theorem all_step {α : Type} {f : α → Bool} {l : List α} {k : Nat} (hk : k < l.length) (h : (l.take k).all f = true) (h2 : f l[k] = true) : (l.take (k + 1)).all f = true := by
 rw [List.take_succ_eq_append_getElem hk, List.all_append, h, List.all_cons, h2]; rfl
theorem all_done {α : Type} {f : α → Bool} {l : List α} {k : Nat} (hk : ¬ k < l.length) (h : (l.take k).all f = true) : l.all f = true := by rwa [List.take_of_length_le (by omega)] at h
end Tr
theorem pc_short (l : List Wd) (hl : l.length ≤ maxLen) : PC Tryz.prog 79 [encWs l] (.bool (shortB l)) := by
 unfold maxLen at hl
 refine zqzd 1 (by simp only [pureD.pureL, pure_encWs, pureD, Bool.and_self]) rfl (zqze [] Tryz.func79 rfl (by decide +kernel) mixed (by decide +kernel) (by simp [Tryz.ntmps79]) ?_)
 show awp _ _ (Code.seq _ _) _ _
 repeat' (first | refine zqj ?_ | ((first | refine zqh fun K hK => ?_ | refine zqe (by decide +kernel) fun K hK => ?_ | refine zqr fun K hK => ?_ | refine zqq (by decide +kernel) fun K hK => ?_); (simp (disch := omega) only [go_sem, Nat.reduceBEq, Nat.reduceBeqDiff, Nat.reduceEqDiff, ↓reduceIte, reduceCtorEq, Nat.reduceAdd, Nat.reduceMul, Nat.reduceLeDiff, Nat.reduceLT, Int.reduceLT, Int.reduceLE, Int.reduceEq, encWs])) | ((first | refine zqd _ rfl (fun hc => ?_) (fun hc => ?_) | refine zqm _ rfl (fun hc => ?_) (fun hc => ?_)) <;> (first | (cases hc; done) | ((try simp only [boolS] at hc); (try (exfalso; omega))))) | refine zqa ?_ | refine zqi ?_ | refine zqb ?_ | refine zqg ?_ | refine zqc ?_ | refine zqk ?_ | refine zql ?_ | refine zqn ?_ | refine zqv ?_ | refine zqw ?_ | refine zqx ?_ | refine zqy ?_ | refine zqz ?_ | refine zqza rfl ?_ | refine zqzb ?_ | refine zqp ?_ | refine zqo ?_ | refine zqu (by (simp (disch := omega) only [go_sem, Nat.reduceBEq, Nat.reduceBeqDiff, Nat.reduceEqDiff, ↓reduceIte, reduceCtorEq, Nat.reduceAdd, Nat.reduceLeDiff, Nat.reduceLT, encWs]); rfl) rfl ?_ | (refine hK _ ?_; clear hK K) | (refine zqf (fun hb => ?_) (fun hb => ?_) <;> (have hb2 := hb; try simp only [boolS] at hb2) <;> ((first | have hb3 : (_ : Bool) = _ := hb2 | have hb3 := eq_false hb2 | have hb3 := eq_true hb2); (simp (disch := omega) only [go_sem, Nat.reduceBEq, Nat.reduceBeqDiff, Nat.reduceEqDiff, ↓reduceIte, reduceCtorEq, Nat.reduceAdd, Nat.reduceMul, Nat.reduceLeDiff, Nat.reduceLT, Int.reduceLT, Int.reduceLE, Int.reduceEq, hb, hb3, encWs]); clear hb hb3; (try (exfalso; omega)))) | (exfalso; omega))
 (refine zqzc (fun mz st => ∃ (k : _), mz = l.length - k ∧ st.t 0 = encWs l ∧ st.t 3 = .int .i64 k ∧ (k ≤ l.length) ∧ ((l.take k).all (fun w => decide (w.text.size ≤ 100)) = true)) ?_ ?_); rotate_left; (rintro mz st ⟨k, rfl, s0, s3, sp0, sp1⟩); rotate_left
 ·(refine ⟨_, 0, rfl, ?_⟩); (simp (disch := omega) only [go_sem, Nat.reduceBEq, Nat.reduceBeqDiff, Nat.reduceEqDiff, ↓reduceIte, reduceCtorEq, Nat.reduceAdd, Nat.reduceMul, Nat.reduceLeDiff, Nat.reduceLT, Int.reduceLT, Int.reduceLE, Int.reduceEq, true_and, and_true, and_self, Int.natCast_add, Int.natCast_one, Int.natCast_zero, List.flatMap_nil, List.map_nil, List.append_nil, List.nil_append, encWs])
  try simp
 repeat' (first | refine zqj ?_ | ((first | refine zqh fun K hK => ?_ | refine zqe (by decide +kernel) fun K hK => ?_ | refine zqr fun K hK => ?_ | refine zqq (by decide +kernel) fun K hK => ?_); (simp (disch := omega) only [go_sem, Nat.reduceBEq, Nat.reduceBeqDiff, Nat.reduceEqDiff, ↓reduceIte, reduceCtorEq, Nat.reduceAdd, Nat.reduceMul, Nat.reduceLeDiff, Nat.reduceLT, Int.reduceLT, Int.reduceLE, Int.reduceEq, s0, s3, encWs])) | ((first | refine zqd _ rfl (fun hc => ?_) (fun hc => ?_) | refine zqm _ rfl (fun hc => ?_) (fun hc => ?_)) <;> (first | (cases hc; done) | ((try simp only [boolS] at hc); (try (exfalso; omega))))) | refine zqa ?_ | refine zqi ?_ | refine zqb ?_ | refine zqg ?_ | refine zqc ?_ | refine zqk ?_ | refine zql ?_ | refine zqn ?_ | refine zqv ?_ | refine zqw ?_ | refine zqx ?_ | refine zqy ?_ | refine zqz ?_ | refine zqza rfl ?_ | refine zqzb ?_ | refine zqp ?_ | refine zqo ?_ | refine zqu (by (simp (disch := omega) only [go_sem, Nat.reduceBEq, Nat.reduceBeqDiff, Nat.reduceEqDiff, ↓reduceIte, reduceCtorEq, Nat.reduceAdd, Nat.reduceLeDiff, Nat.reduceLT, s0, s3, encWs]); rfl) rfl ?_ | (refine hK _ ?_; clear hK K) | (refine zqf (fun hb => ?_) (fun hb => ?_) <;> (have hb2 := hb; try simp only [boolS] at hb2) <;> ((first | have hb3 : (_ : Bool) = _ := hb2 | have hb3 := eq_false hb2 | have hb3 := eq_true hb2); (simp (disch := omega) only [go_sem, Nat.reduceBEq, Nat.reduceBeqDiff, Nat.reduceEqDiff, ↓reduceIte, reduceCtorEq, Nat.reduceAdd, Nat.reduceMul, Nat.reduceLeDiff, Nat.reduceLT, Int.reduceLT, Int.reduceLE, Int.reduceEq, hb, hb3, s0, s3, encWs]); clear hb hb3; (try (exfalso; omega)))) | (exfalso; omega))
 ·have hk : k < l.length := by omega
  refine fin_bool ?_
  have : l.all (fun w => decide (w.text.size ≤ 100)) = false := all_no hk (decide_eq_false (by omega))
  simp only [shortB, this]; rfl
 ·have hk : k < l.length := by omega
  (refine Exists.intro _ (And.intro ?_ ⟨k + 1, rfl, ?_⟩)); rotate_left; (simp (disch := omega) only [go_sem, Nat.reduceBEq, Nat.reduceBeqDiff, Nat.reduceEqDiff, ↓reduceIte, reduceCtorEq, Nat.reduceAdd, Nat.reduceMul, Nat.reduceLeDiff, Nat.reduceLT, Int.reduceLT, Int.reduceLE, Int.reduceEq, s0, s3, true_and, and_true, and_self, Int.natCast_add, Int.natCast_one, Int.natCast_zero, List.flatMap_append, List.flatMap_cons, List.flatMap_nil, List.map_append, List.map_cons, List.map_nil, List.append_nil, List.cons_append, List.nil_append]); rotate_left
  ·omega
  ·exact ⟨by omega, all_step hk sp1 (decide_eq_true (by omega))⟩
 ·have := all_done (by omega) sp1
  refine fin_bool ?_
  simp only [shortB, this, Bool.true_and]
  congr 1; simp only [eq_iff_iff]; omega
namespace Tr
def fitB (t : T) : Bool := recT (fun t l => decide (t.head.length ≤ maxLen) && (decide (t.words.length ≤ maxLen) && (decide (t.kids.length ≤ maxLen) && l.all id))) t
theorem fit_iff (t : T) : fitB t = true ↔ t.head.length ≤ maxLen ∧ t.words.length ≤ maxLen ∧ t.kids.length ≤ maxLen ∧ ∀ k ∈ t.kids, fitB k = true := by
 unfold fitB
 rw [recT_eq]
 simp only [List.all_map, Bool.and_eq_true, decide_eq_true_iff, List.all_eq_true]
 rfl
def loopS (deep most : Int) : List (Int → Int → Int) → Int → Int
 | [], n => n
 | f :: fs, n => if n ≤ most then loopS deep most fs (n + f (deep + 1) (most - n)) else n
def sizeR (t : T) : Int → Int → Int := recT (fun _ l deep most => if 20 < deep then most + 1 else loopS deep most l 1) t
theorem sizeR_eq (t : T) (deep most : Int) : sizeR t deep most = if 20 < deep then most + 1 else loopS deep most (t.kids.map sizeR) 1 := by
 unfold sizeR; rw [recT_eq]
theorem loopS_snoc (deep most : Int) (f : Int → Int → Int) : ∀ (l : List (Int → Int → Int)) (n : Int), loopS deep most l n ≤ most → loopS deep most (l ++ [f]) n = loopS deep most l n + f (deep + 1) (most - loopS deep most l n)
 | [], n, h => by simp only [loopS] at h; simp only [List.nil_append, loopS]; rw [if_pos h]
 | g :: l, n, h => by
  simp only [List.cons_append, loopS] at h ⊢
  split at h
  ·rename_i hn
   simp only [hn, if_true]
   exact loopS_snoc deep most f l _ h
  ·omega
theorem loopS_stop (deep most : Int) : ∀ (l r : List (Int → Int → Int)) (n : Int), most < loopS deep most l n → loopS deep most (l ++ r) n = loopS deep most l n
 | [], r, n, h => by
  simp only [loopS] at h
  simp only [List.nil_append]
  cases r with
  | nil => rfl
  | cons f r => simp only [loopS]; rw [if_neg (by omega)]
 | g :: l, r, n, h => by
  simp only [List.cons_append, loopS] at h ⊢
  split
  ·rename_i hn
   simp only [hn, if_true] at h
   exact loopS_stop deep most l r _ h
  ·rfl
theorem loopS_bounds {deep most : Int} : ∀ (l : List T), (∀ k ∈ l, ∀ (deep most : Int), 0 ≤ most → 1 ≤ sizeR k deep most ∧ sizeR k deep most ≤ most + 1) → ∀ n : Int, 1 ≤ n → n ≤ most + 1 → 1 ≤ loopS deep most (l.map sizeR) n ∧ loopS deep most (l.map sizeR) n ≤ most + 1
 | [], _, n, h1, h2 => ⟨h1, h2⟩
 | k :: l, hk, n, h1, h2 => by
  simp only [List.map_cons, loopS]
  split
  ·have := hk k (by simp) (deep + 1) (most - n) (by omega)
   exact loopS_bounds l (fun q hq => hk q (List.mem_cons_of_mem _ hq)) _ (by omega) (by omega)
  ·exact ⟨h1, h2⟩
theorem sizeR_bounds : ∀ (t : T) (deep most : Int), 0 ≤ most → 1 ≤ sizeR t deep most ∧ sizeR t deep most ≤ most + 1 := by
 refine ind1 fun t ih deep most hm => ?_
 rw [sizeR_eq]
 split
 ·omega
 ·exact loopS_bounds t.kids ih 1 (by omega) (by omega)
end Tr
theorem pc_words : ∀ t : T, fitB t = true → PC Tryz.prog 33 [encU t] (.bool (wordsB t)) := by
 refine ind1 fun t ih hfit => ?_
 obtain ⟨h1, h2, h3, h4⟩ := (fit_iff t).1 hfit
 have ih := fun k hk => ih k hk (h4 k hk)
 have hsh := pc_short t.head h1
 have hsw := pc_short t.words h2
 unfold maxLen at h1 h2 h3
 rw [wordsB_eq]
 refine zqzd 1 (by simp only [pureD.pureL, pure_encU, pureD, Bool.and_self]) rfl (zqze [] Tryz.func33 rfl (by decide +kernel) mixed (by decide +kernel) (by simp [Tryz.ntmps33]) ?_)
 show awp _ _ (Code.seq _ _) _ _
 repeat' (first | refine zqj ?_ | ((first | refine zqh fun K hK => ?_ | refine zqe (by decide +kernel) fun K hK => ?_ | refine zqr fun K hK => ?_ | refine zqq (by decide +kernel) fun K hK => ?_ | refine zqs (hsh) ?_ | refine zqt (hsh) ?_ | refine zqs (hsw) ?_ | refine zqt (hsw) ?_); (simp (disch := omega) only [go_sem, Nat.reduceBEq, Nat.reduceBeqDiff, Nat.reduceEqDiff, ↓reduceIte, reduceCtorEq, Nat.reduceAdd, Nat.reduceMul, Nat.reduceLeDiff, Nat.reduceLT, Int.reduceLT, Int.reduceLE, Int.reduceEq])) | ((first | refine zqd _ rfl (fun hc => ?_) (fun hc => ?_) | refine zqm _ rfl (fun hc => ?_) (fun hc => ?_)) <;> (first | (cases hc; done) | ((try simp only [boolS] at hc); (try (exfalso; omega))))) | refine zqa ?_ | refine zqi ?_ | refine zqb ?_ | refine zqg ?_ | refine zqc ?_ | refine zqk ?_ | refine zql ?_ | refine zqn ?_ | refine zqv ?_ | refine zqw ?_ | refine zqx ?_ | refine zqy ?_ | refine zqz ?_ | refine zqza rfl ?_ | refine zqzb ?_ | refine zqp ?_ | refine zqo ?_ | refine zqu (by (simp (disch := omega) only [go_sem, Nat.reduceBEq, Nat.reduceBeqDiff, Nat.reduceEqDiff, ↓reduceIte, reduceCtorEq, Nat.reduceAdd, Nat.reduceLeDiff, Nat.reduceLT]); rfl) rfl ?_ | (refine hK _ ?_; clear hK K) | (refine zqf (fun hb => ?_) (fun hb => ?_) <;> (have hb2 := hb; try simp only [boolS] at hb2) <;> ((first | have hb3 : (_ : Bool) = _ := hb2 | have hb3 := eq_false hb2 | have hb3 := eq_true hb2); (simp (disch := omega) only [go_sem, Nat.reduceBEq, Nat.reduceBeqDiff, Nat.reduceEqDiff, ↓reduceIte, reduceCtorEq, Nat.reduceAdd, Nat.reduceMul, Nat.reduceLeDiff, Nat.reduceLT, Int.reduceLT, Int.reduceLE, Int.reduceEq, hb, hb3]); clear hb hb3; (try (exfalso; omega)))) | (exfalso; omega))
 rotate_right
 all_goals first | exact fin_bool (by simp_all; try omega) | skip
 have hlab : decide (t.label.size ≤ 30) = true := decide_eq_true (by omega)
 rw [hlab, ‹shortB t.head = true›, ‹shortB t.words = true›, Bool.true_and, Bool.true_and, Bool.true_and]
 (refine zqzc (fun mz st => ∃ (i : _), mz = t.kids.length - i ∧ st.t 1 = .ptr 0 0 ∧ st.t 3 = .int .i64 i ∧ st.H 0 = some (.box 27 (cellsU t)) ∧ (i ≤ t.kids.length) ∧ ((t.kids.take i).all wordsB = true) ∧ (1 ≤ st.nx)) ?_ ?_); rotate_left; (rintro mz st ⟨i, rfl, s1, s3, sH0, sp0, sp1, sp2⟩); rotate_left
 ·(refine ⟨_, 0, rfl, ?_⟩); (simp (disch := omega) only [go_sem, Nat.reduceBEq, Nat.reduceBeqDiff, Nat.reduceEqDiff, ↓reduceIte, reduceCtorEq, Nat.reduceAdd, Nat.reduceMul, Nat.reduceLeDiff, Nat.reduceLT, Int.reduceLT, Int.reduceLE, Int.reduceEq, true_and, and_true, and_self, Int.natCast_add, Int.natCast_one, Int.natCast_zero, List.flatMap_nil, List.map_nil, List.append_nil, List.nil_append])
  try simp
 have hin := fun (h : i < t.kids.length) => ih t.kids[i] (List.getElem_mem h)
 repeat' (first | refine zqj ?_ | ((first | refine zqh fun K hK => ?_ | refine zqe (by decide +kernel) fun K hK => ?_ | refine zqr fun K hK => ?_ | refine zqq (by decide +kernel) fun K hK => ?_ | refine zqs (hin (by omega)) ?_ | refine zqt (hin (by omega)) ?_); (simp (disch := omega) only [go_sem, Nat.reduceBEq, Nat.reduceBeqDiff, Nat.reduceEqDiff, ↓reduceIte, reduceCtorEq, Nat.reduceAdd, Nat.reduceMul, Nat.reduceLeDiff, Nat.reduceLT, Int.reduceLT, Int.reduceLE, Int.reduceEq, s1, s3, sH0, encUs])) | ((first | refine zqd _ rfl (fun hc => ?_) (fun hc => ?_) | refine zqm _ rfl (fun hc => ?_) (fun hc => ?_)) <;> (first | (cases hc; done) | ((try simp only [boolS] at hc); (try (exfalso; omega))))) | refine zqa ?_ | refine zqi ?_ | refine zqb ?_ | refine zqg ?_ | refine zqc ?_ | refine zqk ?_ | refine zql ?_ | refine zqn ?_ | refine zqv ?_ | refine zqw ?_ | refine zqx ?_ | refine zqy ?_ | refine zqz ?_ | refine zqza rfl ?_ | refine zqzb ?_ | refine zqp ?_ | refine zqo ?_ | refine zqu (by (simp (disch := omega) only [go_sem, Nat.reduceBEq, Nat.reduceBeqDiff, Nat.reduceEqDiff, ↓reduceIte, reduceCtorEq, Nat.reduceAdd, Nat.reduceLeDiff, Nat.reduceLT, s1, s3, sH0, encUs]); rfl) rfl ?_ | (refine hK _ ?_; clear hK K) | (refine zqf (fun hb => ?_) (fun hb => ?_) <;> (have hb2 := hb; try simp only [boolS] at hb2) <;> ((first | have hb3 : (_ : Bool) = _ := hb2 | have hb3 := eq_false hb2 | have hb3 := eq_true hb2); (simp (disch := omega) only [go_sem, Nat.reduceBEq, Nat.reduceBeqDiff, Nat.reduceEqDiff, ↓reduceIte, reduceCtorEq, Nat.reduceAdd, Nat.reduceMul, Nat.reduceLeDiff, Nat.reduceLT, Int.reduceLT, Int.reduceLE, Int.reduceEq, hb, hb3, s1, s3, sH0, encUs]); clear hb hb3; (try (exfalso; omega)))) | (exfalso; omega))
 ·exact fin_bool (all_no (k := i) (by omega) (by assumption)).symm
 ·(refine Exists.intro _ (And.intro ?_ ⟨i + 1, rfl, ?_⟩)); rotate_left; (simp (disch := omega) only [go_sem, Nat.reduceBEq, Nat.reduceBeqDiff, Nat.reduceEqDiff, ↓reduceIte, reduceCtorEq, Nat.reduceAdd, Nat.reduceMul, Nat.reduceLeDiff, Nat.reduceLT, Int.reduceLT, Int.reduceLE, Int.reduceEq, s1, s3, sH0, true_and, and_true, and_self, Int.natCast_add, Int.natCast_one, Int.natCast_zero, List.flatMap_append, List.flatMap_cons, List.flatMap_nil, List.map_append, List.map_cons, List.map_nil, List.append_nil, List.cons_append, List.nil_append]); rotate_left
  ·omega
  ·exact ⟨by omega, all_step (by omega) sp1 (by assumption), by omega⟩
 ·exact fin_bool (all_done (by omega) sp1).symm
theorem pc_size : ∀ t : T, fitB t = true → ∀ deep most : Int, 0 ≤ deep → deep ≤ 21 → 0 ≤ most → most ≤ 1000 → PC Tryz.prog 32 [encU t, .int .i64 deep, .int .i64 most] (.int .i64 (sizeR t deep most)) := by
 refine ind1 fun t ih hfit deep most hd0 hd1 hm0 hm1 => ?_
 obtain ⟨h1, h2, h3, h4⟩ := (fit_iff t).1 hfit
 unfold maxLen at h1 h2 h3
 have hb := sizeR_bounds t deep most hm0
 rw [sizeR_eq] at hb ⊢
 refine zqzd 1 (by simp only [pureD.pureL, pure_encU, pureD, Bool.and_self]) rfl (zqze [] Tryz.func32 rfl (by decide +kernel) mixed (by decide +kernel) (by simp [Tryz.ntmps32]) ?_)
 show awp _ _ (Code.seq _ _) _ _
 repeat' (first | refine zqj ?_ | ((first | refine zqh fun K hK => ?_ | refine zqe (by decide +kernel) fun K hK => ?_ | refine zqr fun K hK => ?_ | refine zqq (by decide +kernel) fun K hK => ?_); (simp (disch := omega) only [go_sem, Nat.reduceBEq, Nat.reduceBeqDiff, Nat.reduceEqDiff, ↓reduceIte, reduceCtorEq, Nat.reduceAdd, Nat.reduceMul, Nat.reduceLeDiff, Nat.reduceLT, Int.reduceLT, Int.reduceLE, Int.reduceEq])) | ((first | refine zqd _ rfl (fun hc => ?_) (fun hc => ?_) | refine zqm _ rfl (fun hc => ?_) (fun hc => ?_)) <;> (first | (cases hc; done) | ((try simp only [boolS] at hc); (try (exfalso; omega))))) | refine zqa ?_ | refine zqi ?_ | refine zqb ?_ | refine zqg ?_ | refine zqc ?_ | refine zqk ?_ | refine zql ?_ | refine zqn ?_ | refine zqv ?_ | refine zqw ?_ | refine zqx ?_ | refine zqy ?_ | refine zqz ?_ | refine zqza rfl ?_ | refine zqzb ?_ | refine zqp ?_ | refine zqo ?_ | refine zqu (by (simp (disch := omega) only [go_sem, Nat.reduceBEq, Nat.reduceBeqDiff, Nat.reduceEqDiff, ↓reduceIte, reduceCtorEq, Nat.reduceAdd, Nat.reduceLeDiff, Nat.reduceLT]); rfl) rfl ?_ | (refine hK _ ?_; clear hK K) | (refine zqf (fun hb => ?_) (fun hb => ?_) <;> (have hb2 := hb; try simp only [boolS] at hb2) <;> ((first | have hb3 : (_ : Bool) = _ := hb2 | have hb3 := eq_false hb2 | have hb3 := eq_true hb2); (simp (disch := omega) only [go_sem, Nat.reduceBEq, Nat.reduceBeqDiff, Nat.reduceEqDiff, ↓reduceIte, reduceCtorEq, Nat.reduceAdd, Nat.reduceMul, Nat.reduceLeDiff, Nat.reduceLT, Int.reduceLT, Int.reduceLE, Int.reduceEq, hb, hb3]); clear hb hb3; (try (exfalso; omega)))) | (exfalso; omega))
 ·refine fin_int ?_
  rw [if_pos (by assumption)]
 ·rw [if_neg (by assumption)] at hb ⊢
  (refine zqzc (fun mz st => ∃ (i : _), mz = t.kids.length - i ∧ st.t 1 = .int .i64 deep ∧ st.t 2 = .int .i64 most ∧ st.t 3 = .ptr 0 0 ∧ st.t 7 = .int .i64 (loopS deep most ((t.kids.take i).map sizeR) 1) ∧ st.t 8 = .int .i64 i ∧ st.H 0 = some (.box 27 (cellsU t)) ∧ (i ≤ t.kids.length) ∧ (1 ≤ st.nx)) ?_ ?_); rotate_left; (rintro mz st ⟨i, rfl, s1, s2, s3, s7, s8, sH0, sp0, sp1⟩); rotate_left
  ·(refine ⟨_, 0, rfl, ?_⟩); (simp (disch := omega) only [go_sem, Nat.reduceBEq, Nat.reduceBeqDiff, Nat.reduceEqDiff, ↓reduceIte, reduceCtorEq, Nat.reduceAdd, Nat.reduceMul, Nat.reduceLeDiff, Nat.reduceLT, Int.reduceLT, Int.reduceLE, Int.reduceEq, true_and, and_true, and_self, Int.natCast_add, Int.natCast_one, Int.natCast_zero, List.flatMap_nil, List.map_nil, List.append_nil, List.nil_append])
   try simp [loopS]
  have hin := fun (h : i < t.kids.length) => ih t.kids[i] (List.getElem_mem h) (h4 _ (List.getElem_mem h)) (deep + 1) (most - loopS deep most ((t.kids.take i).map sizeR) 1)
  have hpb := loopS_bounds (deep := deep) (most := most) (t.kids.take i) (fun k _ => sizeR_bounds k) 1 (by omega) (by omega)
  have hnext : ∀ h : i < t.kids.length, loopS deep most ((t.kids.take i).map sizeR) 1 ≤ most → loopS deep most ((t.kids.take (i + 1)).map sizeR) 1 = loopS deep most ((t.kids.take i).map sizeR) 1 + sizeR t.kids[i] (deep + 1) (most - loopS deep most ((t.kids.take i).map sizeR) 1) := fun h hle => by
   rw [List.take_succ_eq_append_getElem h, List.map_append, List.map_cons, List.map_nil, loopS_snoc _ _ _ _ _ hle]
  have hkb := fun (h : i < t.kids.length) => sizeR_bounds t.kids[i] (deep + 1) (most - loopS deep most ((t.kids.take i).map sizeR) 1)
  have hstop : most < loopS deep most ((t.kids.take i).map sizeR) 1 → loopS deep most (t.kids.map sizeR) 1 = loopS deep most ((t.kids.take i).map sizeR) 1 := fun h => by
   have := loopS_stop deep most ((t.kids.take i).map sizeR) ((t.kids.drop i).map sizeR) 1 h
   rwa [← List.map_append, List.take_append_drop] at this
  repeat' (first | refine zqj ?_ | ((first | refine zqh fun K hK => ?_ | refine zqe (by decide +kernel) fun K hK => ?_ | refine zqr fun K hK => ?_ | refine zqq (by decide +kernel) fun K hK => ?_ | refine zqs (hin (by omega) (by omega) (by omega) (by omega) (by omega)) ?_ | refine zqt (hin (by omega) (by omega) (by omega) (by omega) (by omega)) ?_); (simp (disch := omega) only [go_sem, Nat.reduceBEq, Nat.reduceBeqDiff, Nat.reduceEqDiff, ↓reduceIte, reduceCtorEq, Nat.reduceAdd, Nat.reduceMul, Nat.reduceLeDiff, Nat.reduceLT, Int.reduceLT, Int.reduceLE, Int.reduceEq, s1, s2, s3, s7, s8, sH0, encUs])) | ((first | refine zqd _ rfl (fun hc => ?_) (fun hc => ?_) | refine zqm _ rfl (fun hc => ?_) (fun hc => ?_)) <;> (first | (cases hc; done) | ((try simp only [boolS] at hc); (try (exfalso; omega))))) | refine zqa ?_ | refine zqi ?_ | refine zqb ?_ | refine zqg ?_ | refine zqc ?_ | refine zqk ?_ | refine zql ?_ | refine zqn ?_ | refine zqv ?_ | refine zqw ?_ | refine zqx ?_ | refine zqy ?_ | refine zqz ?_ | refine zqza rfl ?_ | refine zqzb ?_ | refine zqp ?_ | refine zqo ?_ | refine zqu (by (simp (disch := omega) only [go_sem, Nat.reduceBEq, Nat.reduceBeqDiff, Nat.reduceEqDiff, ↓reduceIte, reduceCtorEq, Nat.reduceAdd, Nat.reduceLeDiff, Nat.reduceLT, s1, s2, s3, s7, s8, sH0, encUs]); rfl) rfl ?_ | (refine hK _ ?_; clear hK K) | (refine zqf (fun hb => ?_) (fun hb => ?_) <;> (have hb2 := hb; try simp only [boolS] at hb2) <;> ((first | have hb3 : (_ : Bool) = _ := hb2 | have hb3 := eq_false hb2 | have hb3 := eq_true hb2); (simp (disch := omega) only [go_sem, Nat.reduceBEq, Nat.reduceBeqDiff, Nat.reduceEqDiff, ↓reduceIte, reduceCtorEq, Nat.reduceAdd, Nat.reduceMul, Nat.reduceLeDiff, Nat.reduceLT, Int.reduceLT, Int.reduceLE, Int.reduceEq, hb, hb3, s1, s2, s3, s7, s8, sH0, encUs]); clear hb hb3; (try (exfalso; omega)))) | (exfalso; omega))
  ·have hk := hkb (by omega) (by omega)
   have hn := hnext (by omega) (by assumption)
   (refine Exists.intro _ (And.intro ?_ ⟨i + 1, rfl, ?_⟩)); rotate_left; (simp (disch := omega) only [go_sem, Nat.reduceBEq, Nat.reduceBeqDiff, Nat.reduceEqDiff, ↓reduceIte, reduceCtorEq, Nat.reduceAdd, Nat.reduceMul, Nat.reduceLeDiff, Nat.reduceLT, Int.reduceLT, Int.reduceLE, Int.reduceEq, s1, s2, s3, s7, s8, sH0, true_and, and_true, and_self, Int.natCast_add, Int.natCast_one, Int.natCast_zero, List.flatMap_append, List.flatMap_cons, List.flatMap_nil, List.map_append, List.map_cons, List.map_nil, List.append_nil, List.cons_append, List.nil_append]); rotate_left
   ·omega
   ·rw [hn]
    exact ⟨rfl, by omega, by omega⟩
  ·exact fin_int (hstop (by omega)).symm
  ·have : t.kids.take i = t.kids := List.take_of_length_le (by omega)
   rw [this]
   exact fin_int rfl
namespace Tr
def fewB (t : T) (most : Int) : Bool := decide (sizeR t 0 most ≤ most) && wordsB t
end Tr
theorem pc_Few (t : T) (hfit : fitB t = true) (most : Int) (hm0 : 0 ≤ most) (hm1 : most ≤ 1000) : PC Tryz.prog 9 [encU t, .int .i64 most] (.bool (fewB t most)) := by
 refine zqzd 1 (by simp only [pureD.pureL, pure_encU, pureD, Bool.and_self]) rfl (zqze [] Tryz.func9 rfl (by decide +kernel) mixed (by decide +kernel) (by simp [Tryz.ntmps9]) ?_)
 show awp _ _ (Code.seq _ _) _ _
 have hs := pc_size t hfit 0 most (by omega) (by omega) hm0 hm1
 have hw := pc_words t hfit
 skip
 repeat' (first | refine zqj ?_ | ((first | refine zqh fun K hK => ?_ | refine zqe (by decide +kernel) fun K hK => ?_ | refine zqr fun K hK => ?_ | refine zqq (by decide +kernel) fun K hK => ?_ | refine zqs (hs) ?_ | refine zqt (hs) ?_ | refine zqs (hw) ?_ | refine zqt (hw) ?_); (simp (disch := omega) only [go_sem, Nat.reduceBEq, Nat.reduceBeqDiff, Nat.reduceEqDiff, ↓reduceIte, reduceCtorEq, Nat.reduceAdd, Nat.reduceMul, Nat.reduceLeDiff, Nat.reduceLT, Int.reduceLT, Int.reduceLE, Int.reduceEq])) | ((first | refine zqd _ rfl (fun hc => ?_) (fun hc => ?_) | refine zqm _ rfl (fun hc => ?_) (fun hc => ?_)) <;> (first | (cases hc; done) | ((try simp only [boolS] at hc); (try (exfalso; omega))))) | refine zqa ?_ | refine zqi ?_ | refine zqb ?_ | refine zqg ?_ | refine zqc ?_ | refine zqk ?_ | refine zql ?_ | refine zqn ?_ | refine zqv ?_ | refine zqw ?_ | refine zqx ?_ | refine zqy ?_ | refine zqz ?_ | refine zqza rfl ?_ | refine zqzb ?_ | refine zqp ?_ | refine zqo ?_ | refine zqu (by (simp (disch := omega) only [go_sem, Nat.reduceBEq, Nat.reduceBeqDiff, Nat.reduceEqDiff, ↓reduceIte, reduceCtorEq, Nat.reduceAdd, Nat.reduceLeDiff, Nat.reduceLT]); rfl) rfl ?_ | (refine hK _ ?_; clear hK K) | (refine zqf (fun hb => ?_) (fun hb => ?_) <;> (have hb2 := hb; try simp only [boolS] at hb2) <;> ((first | have hb3 : (_ : Bool) = _ := hb2 | have hb3 := eq_false hb2 | have hb3 := eq_true hb2); (simp (disch := omega) only [go_sem, Nat.reduceBEq, Nat.reduceBeqDiff, Nat.reduceEqDiff, ↓reduceIte, reduceCtorEq, Nat.reduceAdd, Nat.reduceMul, Nat.reduceLeDiff, Nat.reduceLT, Int.reduceLT, Int.reduceLE, Int.reduceEq, hb, hb3]); clear hb hb3; (try (exfalso; omega)))) | (exfalso; omega))
 ·exact fin_bool (by unfold fewB; rw [decide_eq_true (by assumption), Bool.true_and])
 ·exact fin_bool (by unfold fewB; rw [decide_eq_false (by assumption), Bool.false_and])
end Go.Proofs.YtkhjpcmpljpmjaaGreatDoor
