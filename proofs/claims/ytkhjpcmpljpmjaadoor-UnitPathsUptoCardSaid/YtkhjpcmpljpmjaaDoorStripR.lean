/-
  The walks of the reference's Strip and Bare. What Valid and IsBare give. No condition but lengths.
-/
import Derived.Test.YtkhjpcmpljpmjaaDoorRefV
import Derived.Test.YtkhjpcmpljpmjaaDoorValid
import Derived.Test.YtkhjpcmpljpmjaaDoorEqual
import Derived.Test.YtkhjpcmpljpmjaaDoorFlat
set_option maxRecDepth 100000
set_option linter.unusedSimpArgs false
set_option linter.unusedVariables false
namespace Go.Proofs.YtkhjpcmpljpmjaaDoor
open Abs Facts Tr
attribute [local irreducible] awp
namespace Tr
def bareW (w : Wd) : Wd := ⟨w.text, Idv.zero⟩
def stripT (t : T) : T := recT (fun t l => .mk Idv.zero t.kind t.label (t.head.map bareW) (t.words.map bareW) l) t
theorem stripT_eq (t : T) : stripT t = .mk Idv.zero t.kind t.label (t.head.map bareW) (t.words.map bareW) (t.kids.map stripT) := by unfold stripT; rw [recT_eq]
end Tr
namespace Tr
theorem nameK_ne (k : Int) : (nameK k ≠ emptyB) ↔ (0 ≤ k ∧ k ≤ 7) := by
  by_cases h : 0 ≤ k ∧ k < 8
  · have : nameK k ≠ emptyB := by
      rcases kind8 h with rfl | rfl | rfl | rfl | rfl | rfl | rfl | rfl <;> decide
    exact ⟨fun _ => by omega, fun _ => this⟩
  · have : nameK k = emptyB := if_neg h
    exact ⟨fun h2 => absurd this h2, fun h2 => by omega⟩
theorem own_alone (t : T) : (ownB t && decide (t.kids.length ≤ 64)) = aloneR t := by
  unfold ownB aloneR
  by_cases h0 : t.kind = 0
  · rw [if_pos h0, if_pos h0, decide_eq_true (show 0 ≤ t.kind ∧ t.kind ≤ 7 by omega)]
    by_cases h1 : t.head.length = 0
    · by_cases h2 : t.words.length = 0
      · have e1 : rowB t.head = true := by unfold rowB; rw [List.eq_nil_of_length_eq_zero h1]; rfl
        have e2 : rowB t.words = true := by unfold rowB; rw [List.eq_nil_of_length_eq_zero h2]; rfl
        rw [e1, e2, decide_eq_true h1, decide_eq_true h2, decide_eq_true (show t.head.length + t.words.length = 0 by omega)]
        simp [Bool.and_comm]
      · rw [decide_eq_false h2, decide_eq_false (show ¬ t.head.length + t.words.length = 0 by omega)]; simp
    · rw [decide_eq_false h1, decide_eq_false (show ¬ t.head.length + t.words.length = 0 by omega)]; simp
  · rw [if_neg h0, if_neg h0]
    have : decide (nameK t.kind ≠ emptyB) = decide (0 ≤ t.kind ∧ t.kind ≤ 7) := decide_eq_decide.2 (nameK_ne t.kind)
    rw [this]
    cases decide (0 ≤ t.kind ∧ t.kind ≤ 7) <;> cases labelB t.label <;> cases rowB t.head <;> cases rowB t.words <;> cases decide (t.kids.length ≤ 64) <;> rfl
theorem all_nodes (f : T → Bool) (t : T) : (nodesT t).all f = (f t && t.kids.all fun k => (nodesT k).all f) := by
  rw [nodesT_eq, List.all_cons, List.all_flatMap]
theorem all_congr' {α : Type} {f g : α → Bool} : ∀ {l : List α}, (∀ x ∈ l, f x = g x) → l.all f = l.all g
  | [], _ => rfl
  | x :: l, h => by rw [List.all_cons, List.all_cons, h x (by simp), all_congr' fun y hy => h y (List.mem_cons_of_mem _ hy)]
theorem right_nodes : ∀ t : T, (nodesT t).all aloneP = rightT t := by
  refine ind1 fun t ih => ?_
  rw [all_nodes, all_congr' ih, rightT_eq, ← own_alone]
  unfold aloneP
  cases ownB t <;> cases (t.kids.all fun k => nestsB t.kind k.kind) <;> cases decide ((t.kids.map keyK).Nodup) <;> cases decide (t.kids.length ≤ 64) <;> cases t.kids.all rightT <;> rfl
/-- Neither identifiers nor marks. -/
def plainB (t : T) : Bool := decide (t.id = Idv.zero) && ((t.head.all fun w => decide (w.by_ = Idv.zero)) && t.words.all fun w => decide (w.by_ = Idv.zero))
theorem map_fix {α : Type} {f : α → α} : ∀ {l : List α}, l = l.map f ↔ ∀ x ∈ l, x = f x
  | [] => by simp
  | x :: l => by
    rw [List.map_cons, List.cons.injEq, map_fix]
    simp
theorem bareW_fix (w : Wd) : w = bareW w ↔ w.by_ = Idv.zero := by
  obtain ⟨a, b⟩ := w
  unfold bareW
  simp [Wd.mk.injEq]
theorem plain_nodes : ∀ t : T, (nodesT t).all plainB = decide (t = stripT t) := by
  refine ind1 fun t ih => ?_
  rw [all_nodes, all_congr' ih, Bool.eq_iff_iff]
  simp only [plainB, Bool.and_eq_true, decide_eq_true_eq, List.all_eq_true]
  have e : t = stripT t ↔ t.id = Idv.zero ∧ t.head = t.head.map bareW ∧ t.words = t.words.map bareW ∧ t.kids = t.kids.map stripT := by
    constructor
    · intro h
      rw [stripT_eq] at h
      exact ⟨congrArg T.id h, congrArg T.head h, congrArg T.words h, congrArg T.kids h⟩
    · rintro ⟨h1, h2, h3, h4⟩
      rw [stripT_eq, ← h1, ← h2, ← h3, ← h4, T.eta]
  rw [e, map_fix, map_fix, map_fix]
  simp only [bareW_fix, and_assoc]
end Tr
theorem pc_Valid (t : T) (hs : szB t = true) (hc : cntT t ≤ 1000000000) (hd : depT t ≤ 1000000000) : PC Tryd.prog 13 [encU t] (.bool (validT t)) := by
  have h := pc_Valid0 t hs hc hd
  rw [right_nodes] at h
  exact h
theorem pc_IsBare (t : T) (hs : szB t = true) (hc : cntT t ≤ 1000000000) (hd : depT t ≤ 1000000000) : PC Tryd.prog 15 [encU t] (.bool (validT t && decide (t = stripT t))) := by
  have h1 := pc_Valid t hs hc hd
  have h2 := pc_every (g := 50) (cap := []) plainB rfl t (sz_fit t hs) (fun x hx => by
    obtain ⟨_, b1, _, b2, _⟩ := (sz_iff x).1 (sz_nodes t hs x hx)
    exact pc_IsBare1 x (by unfold maxLen; omega) (by unfold maxLen; omega))
  rw [plain_nodes] at h2
  refine PC_intro 1 (by simp only [pureD.pureL, pure_encU, pureD, Bool.and_self]) rfl (AC_intro [] Tryd.func15 rfl (by decide +kernel) mixed (by decide +kernel) (by simp [Tryd.ntmps15]) ?_)
  show awp _ _ (Code.seq _ _) _ _
  skip
  repeat' (first | refine awp_assoc ?_ | ((first | refine awp_seq_reg fun K hK => ?_ | refine awp_seq_draw (by decide +kernel) fun K hK => ?_ | refine awp_reg' fun K hK => ?_ | refine awp_draw' (by decide +kernel) fun K hK => ?_ | refine callW_pc (h1) ?_ | refine callD_pc (h1) ?_ | refine callW_pc (h2) ?_ | refine callD_pc (h2) ?_); (simp (disch := omega) only [go_sem, Nat.reduceBEq, Nat.reduceBeqDiff, Nat.reduceEqDiff, ↓reduceIte, reduceCtorEq, Nat.reduceAdd, Nat.reduceMul, Nat.reduceLeDiff, Nat.reduceLT, Int.reduceLT, Int.reduceLE, Int.reduceEq])) | ((first | refine awp_seq_cond _ rfl (fun hc => ?_) (fun hc => ?_) | refine awp_cond _ rfl (fun hc => ?_) (fun hc => ?_)) <;> (first | (cases hc; done) | ((try simp only [boolS] at hc); (try (exfalso; omega))))) | refine awp_seq_block ?_ | refine awp_block ?_ | refine awp_seq_skip ?_ | refine awp_seq_ret ?_ | refine awp_seq_exit ?_ | refine awp_skip ?_ | refine awp_exit ?_ | refine awp_ret ?_ | refine seqK_n ?_ | refine seqK_e ?_ | refine seqK_r ?_ | refine blkK_n ?_ | refine blkK_e ?_ | refine blkK_o rfl ?_ | refine blkK_r ?_ | refine loopK_e ?_ | refine loopK_r ?_ | refine retQ_E (by (simp (disch := omega) only [go_sem, Nat.reduceBEq, Nat.reduceBeqDiff, Nat.reduceEqDiff, ↓reduceIte, reduceCtorEq, Nat.reduceAdd, Nat.reduceMul, Nat.reduceLeDiff, Nat.reduceLT, Int.reduceLT, Int.reduceLE, Int.reduceEq]); rfl) rfl ?_ | (refine hK _ ?_; clear hK K) | (refine stepG_split (fun hb => ?_) (fun hb => ?_) <;> (have hb2 := hb; try simp only [boolS] at hb2) <;> ((first | have hb3 : (_ : Bool) = _ := hb2 | have hb3 := eq_false hb2 | have hb3 := eq_true hb2); (simp (disch := omega) only [go_sem, Nat.reduceBEq, Nat.reduceBeqDiff, Nat.reduceEqDiff, ↓reduceIte, reduceCtorEq, Nat.reduceAdd, Nat.reduceMul, Nat.reduceLeDiff, Nat.reduceLT, Int.reduceLT, Int.reduceLE, Int.reduceEq, hb, hb3]); clear hb hb3; (try (exfalso; omega)))) | (exfalso; omega))
  all_goals refine fin_bool ?_
  all_goals (simp (disch := omega) only [decide_eq_true, decide_eq_false, Bool.true_and, Bool.false_and, Bool.and_true, Bool.and_false, Bool.or_true, Bool.or_false, Bool.true_or, Bool.false_or, Bool.not_true, Bool.not_false, if_true, if_false, Bool.false_eq_true, Bool.and_self, *])
end Go.Proofs.YtkhjpcmpljpmjaaDoor
