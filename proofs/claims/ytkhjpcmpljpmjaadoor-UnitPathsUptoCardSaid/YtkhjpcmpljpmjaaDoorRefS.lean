/-
  The walks of the reference's Rows, Same, Alike, Bared, Find, Parent, Above. No condition but lengths.
-/
import Derived.Test.YtkhjpcmpljpmjaaDoorRefT
import Derived.Test.YtkhjpcmpljpmjaaDoorFind
set_option maxRecDepth 100000
set_option maxHeartbeats 8000000
set_option linter.unusedSimpArgs false
set_option linter.unusedVariables false
namespace Go.Proofs.YtkhjpcmpljpmjaaDoor
open Abs Facts Tr
attribute [local irreducible] awp
namespace Tr
instance : DecidableEq ByteArray := inferInstance
def sameL : List (T → Bool) → List T → Bool
  | [], [] => true
  | f :: fs, t :: ts => f t && sameL fs ts
  | _, _ => false
/-- Structural equality of trees. -/
def sameT (a : T) : T → Bool := recT (fun a l b => decide (a.id = b.id) && (decide (a.kind = b.kind) && (decide (a.label = b.label) && (decide (a.head = b.head) && (decide (a.words = b.words) && (decide (a.kids.length = b.kids.length) && sameL l b.kids)))))) a
theorem sameT_eq (a b : T) : sameT a b = (decide (a.id = b.id) && (decide (a.kind = b.kind) && (decide (a.label = b.label) && (decide (a.head = b.head) && (decide (a.words = b.words) && (decide (a.kids.length = b.kids.length) && sameL (a.kids.map sameT) b.kids)))))) := by
  unfold sameT; rw [recT_eq]
theorem sameL_iff : ∀ (l m : List T), (∀ k ∈ l, ∀ b, sameT k b = true ↔ k = b) → (sameL (l.map sameT) m = true ↔ l = m)
  | [], [], _ => by simp [sameL]
  | [], _ :: _, _ => by simp [sameL]
  | _ :: _, [], _ => by simp [sameL]
  | a :: l, b :: m, h => by
    simp only [List.map_cons, sameL, Bool.and_eq_true, List.cons.injEq]
    rw [h a (by simp) b, sameL_iff l m (fun k hk => h k (List.mem_cons_of_mem _ hk))]
theorem sameT_iff : ∀ a b : T, sameT a b = true ↔ a = b := by
  refine ind1 fun a ih b => ?_
  rw [sameT_eq]
  simp only [Bool.and_eq_true, decide_eq_true_eq]
  rw [sameL_iff a.kids b.kids ih]
  constructor
  · rintro ⟨h1, h2, h3, h4, h5, _, h6⟩
    rw [← T.eta a, ← T.eta b, h1, h2, h3, h4, h5, h6]
  · rintro rfl; exact ⟨rfl, rfl, rfl, rfl, rfl, rfl, rfl⟩
instance : DecidableEq T := fun a b => decidable_of_iff _ (sameT_iff a b)
theorem ext_take {α : Type} {a b : List α} {k : Nat} (hk : k < a.length) (hl : a.length = b.length) (h : a.take k = b.take k) (h2 : a[k] = b[k]'(by omega)) : a.take (k + 1) = b.take (k + 1) := by
  rw [List.take_succ_eq_append_getElem hk, List.take_succ_eq_append_getElem (show k < b.length by omega), h, h2]
theorem ne_at {α : Type} {a b : List α} {k : Nat} (hk : k < a.length) (hl : a.length = b.length) (h2 : ¬ a[k] = b[k]'(by omega)) : ¬ a = b := fun h => by subst h; exact h2 rfl
theorem eq_done {α : Type} {a b : List α} {k : Nat} (hk : a.length ≤ k) (hl : a.length = b.length) (h : a.take k = b.take k) : a = b := by
  rwa [List.take_of_length_le hk, List.take_of_length_le (by omega)] at h
end Tr
theorem pc_RowsI (a b : List Idv) (ha : a.length ≤ maxLen) (hb : b.length ≤ maxLen) : PC Tryd.prog 29 [encIds a, encIds b] (.bool (decide (a = b))) := by
  unfold maxLen at ha hb
  refine PC_intro 1 (by simp only [pureD.pureL, pure_encIds, Bool.and_self]) rfl (AC_intro [] Tryd.func29 rfl (by decide +kernel) mixed (by decide +kernel) (by simp [Tryd.ntmps29]) ?_)
  show awp _ _ (Code.seq _ _) _ _
  skip
  repeat' (first | refine awp_assoc ?_ | ((first | refine awp_seq_reg fun K hK => ?_ | refine awp_seq_draw (by decide +kernel) fun K hK => ?_ | refine awp_reg' fun K hK => ?_ | refine awp_draw' (by decide +kernel) fun K hK => ?_); (simp (disch := omega) only [go_sem, Nat.reduceBEq, Nat.reduceBeqDiff, Nat.reduceEqDiff, ↓reduceIte, reduceCtorEq, Nat.reduceAdd, Nat.reduceMul, Nat.reduceLeDiff, Nat.reduceLT, Int.reduceLT, Int.reduceLE, Int.reduceEq, encIds])) | ((first | refine awp_seq_cond _ rfl (fun hc => ?_) (fun hc => ?_) | refine awp_cond _ rfl (fun hc => ?_) (fun hc => ?_)) <;> (first | (cases hc; done) | ((try simp only [boolS] at hc); (try (exfalso; omega))))) | refine awp_seq_block ?_ | refine awp_block ?_ | refine awp_seq_skip ?_ | refine awp_seq_ret ?_ | refine awp_seq_exit ?_ | refine awp_skip ?_ | refine awp_exit ?_ | refine awp_ret ?_ | refine seqK_n ?_ | refine seqK_e ?_ | refine seqK_r ?_ | refine blkK_n ?_ | refine blkK_e ?_ | refine blkK_o rfl ?_ | refine blkK_r ?_ | refine loopK_e ?_ | refine loopK_r ?_ | refine retQ_E (by (simp (disch := omega) only [go_sem, Nat.reduceBEq, Nat.reduceBeqDiff, Nat.reduceEqDiff, ↓reduceIte, reduceCtorEq, Nat.reduceAdd, Nat.reduceMul, Nat.reduceLeDiff, Nat.reduceLT, Int.reduceLT, Int.reduceLE, Int.reduceEq, encIds]); rfl) rfl ?_ | (refine hK _ ?_; clear hK K) | (refine stepG_split (fun hb => ?_) (fun hb => ?_) <;> (have hb2 := hb; try simp only [boolS] at hb2) <;> ((first | have hb3 : (_ : Bool) = _ := hb2 | have hb3 := eq_false hb2 | have hb3 := eq_true hb2); (simp (disch := omega) only [go_sem, Nat.reduceBEq, Nat.reduceBeqDiff, Nat.reduceEqDiff, ↓reduceIte, reduceCtorEq, Nat.reduceAdd, Nat.reduceMul, Nat.reduceLeDiff, Nat.reduceLT, Int.reduceLT, Int.reduceLE, Int.reduceEq, hb, hb3, encIds]); clear hb hb3; (try (exfalso; omega)))) | (exfalso; omega))
  · exact fin_bool (decide_eq_false (fun h => by subst h; contradiction)).symm
  · have hl : a.length = b.length := by omega
    (refine awp_loop' (fun mz st => ∃ (k : _), mz = a.length - k ∧ st.t 0 = encIds a ∧ st.t 1 = encIds b ∧ st.t 5 = .int .i64 k ∧ (k ≤ a.length) ∧ (a.take k = b.take k)) ?_ ?_); rotate_left; (rintro mz st ⟨k, rfl, q0, q1, q5, qp0, qp1⟩); rotate_left
    · (refine ⟨_, 0, rfl, ?_⟩); (simp (disch := omega) only [go_sem, Nat.reduceBEq, Nat.reduceBeqDiff, Nat.reduceEqDiff, ↓reduceIte, reduceCtorEq, Nat.reduceAdd, Nat.reduceMul, Nat.reduceLeDiff, Nat.reduceLT, Int.reduceLT, Int.reduceLE, Int.reduceEq, true_and, and_true, and_self, Int.natCast_add, Int.natCast_one, Int.natCast_zero, List.flatMap_nil, List.map_nil, List.append_nil, List.nil_append, encIds])
      try simp
    repeat' (first | refine awp_assoc ?_ | ((first | refine awp_seq_reg fun K hK => ?_ | refine awp_seq_draw (by decide +kernel) fun K hK => ?_ | refine awp_reg' fun K hK => ?_ | refine awp_draw' (by decide +kernel) fun K hK => ?_); (simp (disch := omega) only [go_sem, Nat.reduceBEq, Nat.reduceBeqDiff, Nat.reduceEqDiff, ↓reduceIte, reduceCtorEq, Nat.reduceAdd, Nat.reduceMul, Nat.reduceLeDiff, Nat.reduceLT, Int.reduceLT, Int.reduceLE, Int.reduceEq, q0, q1, q5, encIds])) | ((first | refine awp_seq_cond _ rfl (fun hc => ?_) (fun hc => ?_) | refine awp_cond _ rfl (fun hc => ?_) (fun hc => ?_)) <;> (first | (cases hc; done) | ((try simp only [boolS] at hc); (try (exfalso; omega))))) | refine awp_seq_block ?_ | refine awp_block ?_ | refine awp_seq_skip ?_ | refine awp_seq_ret ?_ | refine awp_seq_exit ?_ | refine awp_skip ?_ | refine awp_exit ?_ | refine awp_ret ?_ | refine seqK_n ?_ | refine seqK_e ?_ | refine seqK_r ?_ | refine blkK_n ?_ | refine blkK_e ?_ | refine blkK_o rfl ?_ | refine blkK_r ?_ | refine loopK_e ?_ | refine loopK_r ?_ | refine retQ_E (by (simp (disch := omega) only [go_sem, Nat.reduceBEq, Nat.reduceBeqDiff, Nat.reduceEqDiff, ↓reduceIte, reduceCtorEq, Nat.reduceAdd, Nat.reduceMul, Nat.reduceLeDiff, Nat.reduceLT, Int.reduceLT, Int.reduceLE, Int.reduceEq, q0, q1, q5, encIds]); rfl) rfl ?_ | (refine hK _ ?_; clear hK K) | (refine stepG_split (fun hb => ?_) (fun hb => ?_) <;> (have hb2 := hb; try simp only [boolS] at hb2) <;> ((first | have hb3 : (_ : Bool) = _ := hb2 | have hb3 := eq_false hb2 | have hb3 := eq_true hb2); (simp (disch := omega) only [go_sem, Nat.reduceBEq, Nat.reduceBeqDiff, Nat.reduceEqDiff, ↓reduceIte, reduceCtorEq, Nat.reduceAdd, Nat.reduceMul, Nat.reduceLeDiff, Nat.reduceLT, Int.reduceLT, Int.reduceLE, Int.reduceEq, hb, hb3, q0, q1, q5, encIds]); clear hb hb3; (try (exfalso; omega)))) | (exfalso; omega))
    · exact fin_bool (decide_eq_false (ne_at (k := k) (by omega) hl (by assumption))).symm
    · (refine Exists.intro _ (And.intro ?_ ⟨k + 1, rfl, ?_⟩)); rotate_left; (simp (disch := omega) only [go_sem, Nat.reduceBEq, Nat.reduceBeqDiff, Nat.reduceEqDiff, ↓reduceIte, reduceCtorEq, Nat.reduceAdd, Nat.reduceMul, Nat.reduceLeDiff, Nat.reduceLT, Int.reduceLT, Int.reduceLE, Int.reduceEq, q0, q1, q5, true_and, and_true, and_self, Int.natCast_add, Int.natCast_one, Int.natCast_zero, List.flatMap_append, List.flatMap_cons, List.flatMap_nil, List.map_append, List.map_cons, List.map_nil, List.append_nil, List.cons_append, List.nil_append, encIds]); rotate_left
      · omega
      · exact ⟨by omega, ext_take (by omega) hl qp1 (by assumption)⟩
    · exact fin_bool (decide_eq_true (eq_done (by omega) hl qp1)).symm
namespace Tr
theorem wayT_self {id : Idv} {t : T} (h : t.id = id) : wayT id t = [t] := by rw [wayT_eq, if_pos h]
theorem wayT_kid {id : Idv} {t : T} {i : Nat} (h0 : ¬ t.id = id) (hi : i < t.kids.length) (h1 : ∀ j, (hj : j < i) → (h : j < t.kids.length) → wayT id t.kids[j] = []) (h2 : wayT id t.kids[i] ≠ []) : wayT id t = t :: wayT id t.kids[i] := by
  rw [wayT_eq, if_neg h0, find_some (wayT id) hi h1 h2]
theorem wayT_none {id : Idv} {t : T} {i : Nat} (h0 : ¬ t.id = id) (hi : t.kids.length ≤ i) (h1 : ∀ j, (hj : j < i) → (h : j < t.kids.length) → wayT id t.kids[j] = []) : wayT id t = [] := by
  rw [wayT_eq, if_neg h0, find_none (wayT id) h1 hi]
theorem findR_no {id : Idv} {t : T} (h : wayT id t = []) : findR id t = (T.zero, false) := by unfold findR; rw [h]; rfl
theorem findR_self {id : Idv} {t : T} (h : t.id = id) : findR id t = (t, true) := by unfold findR; rw [wayT_self h]; rfl
end Tr
namespace Tr
end Tr
end Go.Proofs.YtkhjpcmpljpmjaaDoor
