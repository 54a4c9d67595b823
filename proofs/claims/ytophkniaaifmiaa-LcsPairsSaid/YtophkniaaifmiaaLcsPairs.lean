/- the walk of lcs.Pairs -/
import Derived.Test.YtophkniaaifmiaaLcsLong
import Derived.Test.YtophkniaaifmiaaAbs19
namespace Go.Proofs.Ytophkniaaifmiaa
open Abs Facts
attribute [local irreducible] awp
def cellsP (p : Nat × Nat) : List D := [.int .i64 (p.1 : Int), .int .i64 (p.2 : Int)]
def encP (l : List (Nat × Nat)) : D := .rsl false 2 (l.map fun p => .agg (cellsP p))
theorem pure_encP (l : List (Nat × Nat)) : pureD (encP l) = true := by simp only [encP, pureD]; exact pureL_map (fun _ => rfl) l
theorem Lcs.pairsF_len {α : Type} [DecidableEq α] (a b : List α) : ∀ n i k, (Lcs.pairsF a b n i k).length = n
  | 0, _, _ => rfl
  | n + 1, i, k => by simp [Lcs.pairsF, Lcs.pairsF_len a b n]
theorem rc29 {H : HM} {nx : Nat} (a b : List ByteArray) (ha : a.length ≤ 256) (hb : b.length ≤ 256) (i k : Nat) (hi : i ≤ a.length) (hk : k ≤ b.length) (h0 : H 0 = some (.box 27 [encS a])) (h1 : H 1 = some (.box 27 [encS b])) (h2 : H 2 = some (.box 50 [atD a b])) :
    RC Try.prog 29 [.int .i64 i, .int .i64 k, .ptr 0 0, .ptr 1 0, .ptr 2 0] H nx (.agg [.int .i64 ((Lcs.next a b i k).1 : Int), .int .i64 ((Lcs.next a b i k).2 : Int)]) := by
  refine PC.borrow (pc29 a b ha hb i k hi hk) rfl 2 ?_
  refine optL_cons (sealD_pure _ rfl) (optL_cons (sealD_pure _ rfl) (optL_cons ?_ (optL_cons ?_ (optL_cons ?_ optL_nil))))
  · exact sealD_box 1 h0 isAggT27 (sealD_pure _ (pure_encS a))
  · exact sealD_box 1 h1 isAggT27 (sealD_pure _ (pure_encS b))
  · exact sealD_box 1 h2 isAggT50 (sealD_pure _ (pure_atD a b))
set_option maxRecDepth 100000 in
set_option maxHeartbeats 2000000 in
theorem ac15 (a b : List ByteArray) (ha : a.length ≤ maxLen) (hb : b.length ≤ maxLen) : AC Try.prog 15 [encS a, encS b] noH 0 fun d H _ =>
    ((256 < a.length ∨ 256 < b.length) ∧ d = .nil) ∨ (¬ (256 < a.length ∨ 256 < b.length) ∧ d = .osl 3 (Lcs.pairs a b).length ∧ H 3 = some (.row 33 (Lcs.pairs a b).length ((Lcs.pairs a b).flatMap cellsP))) := by
  unfold maxLen at ha hb
  refine (AC_intro [7] Try.func15 rfl (by decide +kernel) mixed (by decide +kernel) (by simp [Try.ntmps15]) ?_)
  show awp _ _ (Code.seq _ _) _ _
  (refine awp_seq_reg fun K hK => ?_); (simp only [go_sem, Nat.reduceBEq, Nat.reduceAdd, Nat.zero_add, encS]); (refine hK _ ?_); (clear hK K)
  repeat refine awp_assoc ?_
  refine awp_seq_reg fun K hK => ?_
  simp only [go_sem, Nat.reduceBEq, reduceCtorEq, ne_eq, not_false_eq_true, Nat.reduceAdd, Nat.reduceLeDiff, Nat.reduceLT, List.length_cons, List.length_nil, beq_self_eq_true, Bool.and_true, or_true, List.drop_zero, List.take_succ_cons, List.take_zero, Nat.mul_one, Nat.zero_add]
  refine callW_pc (pc27 true [a, b] (by simp)) ?_
  simp only [go_sem]
  refine hK _ ?_
  clear hK K
  refine awp_seq fun K hK => ?_
  by_cases hlong : 256 < a.length ∨ 256 < b.length
  · have ht : (tooLong a || tooLong b) = true := by
      unfold tooLong
      simp only [Bool.or_eq_true, decide_eq_true_eq]
      omega
    simp only [ht]
    refine awp_cond true rfl (fun _ => ?_) (fun hc => (by cases hc))
    (refine awp_seq_reg fun K hK => ?_); (simp only [go_sem, Nat.reduceBEq, Nat.reduceAdd]); (refine hK _ ?_); (clear hK K)
    (refine awp_ret ?_); (refine Exists.intro _ (And.intro rfl ?_))
    exact .inl ⟨hlong, rfl⟩
  have ht : (tooLong a || tooLong b) = false := by
    unfold tooLong
    simp only [Bool.or_eq_false_iff, decide_eq_false_iff_not]
    omega
  simp only [ht]
  refine awp_cond false rfl (fun hc => (by cases hc)) (fun _ => ?_)
  refine awp_skip (hK _ ?_); clear hK K
  have ha' : a.length ≤ 256 := by omega
  have hb' : b.length ≤ 256 := by omega
  repeat refine awp_assoc ?_
  refine awp_seq_reg fun K hK => ?_
  simp only [go_sem, Nat.reduceBEq, Nat.reduceAdd, Nat.reduceLeDiff, Nat.reduceLT, List.length_cons, List.length_nil, beq_self_eq_true, List.drop_zero, List.take_succ_cons, List.take_zero, Nat.zero_add]
  refine callW_pc (pc28 a b ha' hb') ?_
  simp only [go_sem, Nat.reduceBEq, Nat.reduceAdd, Nat.reduceLeDiff, Nat.reduceLT, List.length_cons, List.length_nil, beq_self_eq_true, List.set_cons_zero, Nat.zero_add]
  refine hK _ ?_
  clear hK K
  (refine awp_seq_reg fun K hK => ?_); (simp only [go_sem, Nat.reduceBEq, beq_self_eq_true]); (refine hK _ ?_); (clear hK K)
  (refine awp_seq_reg fun K hK => ?_); (simp only [go_sem, Nat.reduceAdd, beq_self_eq_true]); (refine hK _ ?_); (clear hK K)
  repeat refine awp_assoc ?_
  (refine awp_seq_reg fun K hK => ?_); (simp only [go_sem]); (refine hK _ ?_); (clear hK K)
  refine awp_seq fun K hK => ?_
  refine awp_block (awp_loop (fun n st => ∃ (i k : Nat) (out : List (Nat × Nat)), n = Lcs.at_ a b i k ∧ i ≤ a.length ∧ k ≤ b.length ∧ st.t 5 = .ptr 2 0 ∧ st.t 6 = .fn 29 [.ptr 0 0, .ptr 1 0, .ptr 2 0] ∧ st.t 7 = .osl 3 out.length ∧ st.t 8 = .int .i64 i ∧ st.t 9 = .int .i64 k ∧
      st.H 0 = some (.box 27 [encS a]) ∧ st.H 1 = some (.box 27 [encS b]) ∧ st.H 2 = some (.box 50 [atD a b]) ∧ st.H 3 = some (.row 33 out.length (out.flatMap cellsP)) ∧ 4 ≤ st.nx ∧ out ++ Lcs.pairsFrom a b i k = Lcs.pairsFrom a b 0 0) (Lcs.at_ a b 0 0) ?_ ?_)
  · exact ⟨0, 0, [], rfl, Nat.zero_le _, Nat.zero_le _, rfl, rfl, rfl, rfl, rfl, rfl, rfl, rfl, rfl, by show 4 ≤ 4; omega, rfl⟩
  rintro n st ⟨i, k, out, rfl, hi, hk, h5, h6, h7, h8, h9, hH0, hH1, hH2, hH3, hnx, ho⟩
  have hlen : out.length ≤ 256 := by
    have h1 := congrArg List.length ho
    simp only [List.length_append, Lcs.pairsFrom, Lcs.pairsF_len] at h1
    have h2 := Lcs.at_le a b 0 0
    omega
  repeat refine awp_assoc ?_
  refine awp_seq_reg fun K hK => ?_
  simp only [go_sem, Nat.reduceBEq, Nat.reduceAdd, Nat.reduceLeDiff, List.length_cons, List.length_nil, beq_self_eq_true, List.drop_zero, List.take_succ_cons, List.take_zero, Nat.zero_add, h5, h8, h9, hH2, atD]
  refine callW_pc (pcAt a b ha' hb' i k hi hk) ?_
  simp only [go_sem, Nat.reduceBEq, beq_self_eq_true]
  refine hK _ ?_
  clear hK K
  refine awp_seq fun K2 hK2 => ?_
  (refine awp_cond _ rfl (fun hc => ?_) (fun hc => ?_)) <;> (simp only [decide_eq_true_eq, decide_eq_false_iff_not] at hc)
  · refine awp_skip (hK2 _ ?_); clear hK2 K2
    repeat refine awp_assoc ?_
    have hpos : 0 < Lcs.at_ a b i k := by omega
    have hcons := Lcs.pairsFrom_cons a b i k hpos
    obtain ⟨m, hm⟩ : ∃ m, Lcs.at_ a b i k = m + 1 := ⟨Lcs.at_ a b i k - 1, by omega⟩
    obtain ⟨q1, q2, q3, q4, q5, q6⟩ := Lcs.next_good a b i k m hm
    refine awp_block ?_
    refine awp_seq_reg fun K hK => ?_
    simp only [go_sem, Nat.reduceBEq, beq_self_eq_true, h6, h8, h9]
    refine callW_rc (rc29 a b ha' hb' i k hi hk hH0 hH1 hH2) ?_
    simp only [go_sem, Nat.reduceBEq, Nat.reduceAdd, Nat.reduceLeDiff, Nat.reduceLT, List.length_cons, List.length_nil, beq_self_eq_true, List.set_cons_zero, List.set_cons_succ, Nat.zero_add]
    refine hK _ ?_
    clear hK K
    have e0 : (0 == st.nx) = false := by simp; omega
    have e1 : (1 == st.nx) = false := by simp; omega
    have e2 : (2 == st.nx) = false := by simp; omega
    have e3 : (3 == st.nx) = false := by simp; omega
    have b1 : (out.length + 1) * 16 ≤ 140737488355328 := by omega
    have b2 : out.length ≤ 9223372036854775806 := by omega
    (refine awp_seq_reg fun K hK => ?_); (simp only [go_sem, Nat.reduceBEq, Bool.not_true, reduceCtorEq, ne_eq, not_false_eq_true, Nat.reduceAdd, Nat.reduceMul, Nat.reduceLeDiff, Nat.reduceLT, List.length_cons, List.length_nil, beq_self_eq_true, Bool.and_true, or_true, List.drop_zero, List.take_succ_cons, List.take_zero, Nat.zero_add, Bool.and_false, h7, hH3, e3, b1, b2]); (refine hK _ ?_); (clear hK K)
    have wa : IntKind.i64.wrap (((Lcs.next a b i k).1 : Int) + 1) = (((Lcs.next a b i k).1 + 1 : Nat) : Int) := wrapI (by omega)
    have wb : IntKind.i64.wrap (((Lcs.next a b i k).2 : Int) + 1) = (((Lcs.next a b i k).2 + 1 : Nat) : Int) := wrapI (by omega)
    have e4 : (st.nx == 3) = false := by simp; omega
    (refine awp_draw (by decide +kernel) ?_); (simp only [go_sem, Nat.reduceBEq, reduceCtorEq, Nat.reduceAdd, Nat.reduceLeDiff, List.length_cons, List.length_nil, beq_self_eq_true, List.drop_zero, List.take_succ_cons, List.take_zero, List.drop_succ_cons, Nat.zero_add, Nat.add_zero, wa, wb, e4])
    have n0 : ¬ (0 = st.nx) := by omega
    have n1 : ¬ (1 = st.nx) := by omega
    have n2 : ¬ (2 = st.nx) := by omega
    refine ⟨m, by omega, (Lcs.next a b i k).1 + 1, (Lcs.next a b i k).2 + 1, out ++ [Lcs.next a b i k], by omega, by omega, by omega, h5, h6, ?_, rfl, rfl, ?_, ?_, ?_, ?_, ?_, ?_⟩
    · rw [List.length_append]; rfl
    · simp only [go_sem, Nat.reduceBEq, e0, hH0]
    · simp only [go_sem, Nat.reduceBEq, e1, hH1]
    · simp only [go_sem, Nat.reduceBEq, e2, hH2]
    · simp only [go_sem, Option.some.injEq, List.length_cons, List.length_nil, beq_self_eq_true, Nat.zero_add, List.length_append, e3]
      simp [cellsP]
    · show 4 ≤ st.nx + 1; omega
    · rw [List.append_assoc, ← ho, hcons]; rfl
  · refine awp_exit (show K _ from hK _ ?_)
    (refine awp_seq_reg fun K hK => ?_); (simp only [go_sem, Nat.reduceBEq, beq_self_eq_true, h7]); (refine hK _ ?_); (clear hK K)
    (refine awp_ret ?_); (refine Exists.intro _ (And.intro rfl ?_))
    rw [Lcs.pairsFrom_nil a b i k (by omega), List.append_nil] at ho
    refine .inr ⟨hlong, ?_, ?_⟩
    · unfold Lcs.pairs; rw [if_neg hlong, ← ho]; rfl
    · unfold Lcs.pairs; rw [if_neg hlong, ← ho]; exact hH3
theorem pc15 (a b : List ByteArray) (ha : a.length ≤ maxLen) (hb : b.length ≤ maxLen) : PC Try.prog 15 [encS a, encS b] (encP (Lcs.pairs a b)) := by
  refine PC_intro 2 (by simp only [pureD.pureL, pure_encS, Bool.and_self]) (pure_encP _) ((ac15 a b ha hb).mono fun d H nx h => ?_)
  rcases h with ⟨hl, rfl⟩ | ⟨hl, rfl, hH⟩
  · refine fin_nil ?_
    unfold Lcs.pairs; rw [if_pos hl]; rfl
  · exact fin_of (sealD_rowAgg 0 hH isAggT33 sizeT33 (fun _ => rfl) (fun _ => rfl))
/-- Two lists that are too long: no pairs. -/
theorem pc15nil (a b : List ByteArray) (ha : a.length ≤ maxLen) (hb : b.length ≤ maxLen) (h : 256 < a.length ∨ 256 < b.length) : PC Try.prog 15 [encS a, encS b] .nil :=
  PC_intro 1 (by simp only [pureD.pureL, pure_encS, Bool.and_self]) rfl ((ac15 a b ha hb).mono fun d H nx h' => by
    rcases h' with ⟨_, rfl⟩ | ⟨hl, _⟩
    · exact fin_pure rfl (Le.refl _)
    · exact (hl h).elim)
/-- Else the pairs, in a row of the caller's own. -/
theorem oc15 (a b : List ByteArray) (ha : a.length ≤ maxLen) (hb : b.length ≤ maxLen) (h : ¬ (256 < a.length ∨ 256 < b.length)) : OC Try.prog 15 [encS a, encS b] [.row 33 (Lcs.pairs a b).length ((Lcs.pairs a b).flatMap cellsP)] (.osl 0 (Lcs.pairs a b).length) :=
  OC_intro (by simp only [pureD.pureL, pure_encS, Bool.and_self]) rfl (fun o ho => by simp at ho; subst ho; exact pureL_flatMap (fun _ => rfl) _) ((ac15 a b ha hb).mono fun d H nx h' => by
    rcases h' with ⟨hl, _⟩ | ⟨_, rfl, hH⟩
    · exact (h hl).elim
    · refine ⟨fun _ => 3, fun i j hi hj _ => by simp at hi hj; omega, rfl, fun j hj => ?_⟩
      simp at hj; subst hj; exact hH)
end Go.Proofs.Ytophkniaaifmiaa
