/- the walk of the closure next of lcs.Pairs -/
import Derived.Test.YtophkniaaifmiaaLcsLengths
namespace Go.Proofs.Ytophkniaaifmiaa
open Abs Facts
attribute [local irreducible] awp
def atD (a b : List ByteArray) : D := .fn 36 [.rptr (encI (Lcs.tab a b)), .rptr (.int .i64 ((b.length + 1 : Nat) : Int))]
theorem pure_atD (a b : List ByteArray) : pureD (atD a b) = true := by simp only [atD, pureD, pureD.pureL, pure_encI, Bool.and_self]
/-- The table's reader, called with the table of a and b. -/
theorem pcAt (a b : List ByteArray) (ha : a.length ≤ 256) (hb : b.length ≤ 256) (i k : Nat) (hi : i ≤ a.length) (hk : k ≤ b.length) : PC Try.prog 36 [.int .i64 i, .int .i64 k, .rptr (encI (Lcs.tab a b)), .rptr (.int .i64 ((b.length + 1 : Nat) : Int))] (.int .i64 (Lcs.at_ a b i k : Int)) :=
  pc36 i k (b.length + 1) (Lcs.tab a b) _ (Lcs.tab_get a b i k hi hk) (by
    have hm : (a.length + 1) * (b.length + 1) ≤ 66049 := Nat.mul_le_mul (show a.length + 1 ≤ 257 by omega) (show b.length + 1 ≤ 257 by omega)
    rw [Lcs.tab_len]; omega)
set_option maxRecDepth 100000 in
set_option maxHeartbeats 2000000 in
theorem pc29 (a b : List ByteArray) (ha : a.length ≤ 256) (hb : b.length ≤ 256) (i k : Nat) (hi : i ≤ a.length) (hk : k ≤ b.length) :
    PC Try.prog 29 [.int .i64 i, .int .i64 k, .rptr (encS a), .rptr (encS b), .rptr (atD a b)] (.agg [.int .i64 ((Lcs.next a b i k).1 : Int), .int .i64 ((Lcs.next a b i k).2 : Int)]) := by
  refine PC_intro 2 (by simp only [pureD.pureL, pureD, pure_encS, pure_atD, Bool.and_self]) rfl (AC_intro [] Try.func29 rfl (by decide +kernel) mixed (by decide +kernel) (by simp [Try.ntmps29]) ?_)
  show awp _ _ (Code.seq _ _) _ _
  (refine awp_seq_reg fun K hK => ?_); (simp only [go_sem, Nat.zero_add]); (refine hK _ ?_); (clear hK K)
  repeat refine awp_assoc ?_
  (refine awp_seq_reg fun K hK => ?_); (simp only [go_sem, Nat.reduceBEq, beq_self_eq_true, encS, atD]); (refine hK _ ?_); (clear hK K)
  refine awp_seq fun K hK => ?_
  refine awp_block (awp_loop (fun n st => ∃ x : Nat, n = a.length - x ∧ x ≤ a.length ∧ st.t 0 = .int .i64 i ∧ st.t 1 = .int .i64 k ∧ st.t 2 = .rptr (encS a) ∧ st.t 3 = .rptr (encS b) ∧ st.t 4 = .rptr (atD a b) ∧ st.t 7 = .ptr 0 0 ∧ st.t 8 = .int .i64 x ∧
      st.H 0 = some (.box 33 [.int .i64 0, .int .i64 0]) ∧ Lcs.search a b (Lcs.at_ a b i k) k i = Lcs.search a b (Lcs.at_ a b i k) k x) (a.length - i) ?_ ?_)
  · exact ⟨i, rfl, hi, rfl, rfl, rfl, rfl, rfl, rfl, rfl, rfl, rfl⟩
  rintro n st ⟨x, rfl, hx, h0, h1, h2, h3, h4, h7, h8, hH, hs⟩
  repeat refine awp_assoc ?_
  (refine awp_seq_reg fun K hK => ?_); (simp only [go_sem, Nat.reduceBEq, List.length_map, Nat.reduceAdd, beq_self_eq_true, h8, h2, encS]); (refine hK _ ?_); (clear hK K)
  refine awp_seq fun K2 hK2 => ?_
  (refine awp_cond _ rfl (fun hc => ?_) (fun hc => ?_)) <;> (simp only [decide_eq_true_eq, decide_eq_false_iff_not] at hc)
  · have hx' : x < a.length := by omega
    refine awp_skip (hK2 _ ?_); clear hK2 K2
    refine awp_seq fun K2 hK2 => ?_
    refine awp_block ?_
    repeat refine awp_assoc ?_
    (refine awp_seq_reg fun K hK => ?_); (simp only [go_sem, Nat.reduceBEq, beq_self_eq_true, h1]); (refine hK _ ?_); (clear hK K)
    refine awp_block (awp_loop (fun n st => ∃ y : Nat, n = b.length - y ∧ y ≤ b.length ∧ st.t 0 = .int .i64 i ∧ st.t 1 = .int .i64 k ∧ st.t 2 = .rptr (encS a) ∧ st.t 3 = .rptr (encS b) ∧ st.t 4 = .rptr (atD a b) ∧ st.t 7 = .ptr 0 0 ∧ st.t 8 = .int .i64 x ∧ st.t 9 = .int .i64 y ∧
        st.H 0 = some (.box 33 [.int .i64 0, .int .i64 0]) ∧ Lcs.inRow a b (Lcs.at_ a b i k) x k = Lcs.inRow a b (Lcs.at_ a b i k) x y) (b.length - k) ?_ ?_)
    · exact ⟨k, rfl, hk, h0, h1, h2, h3, h4, h7, h8, rfl, hH, rfl⟩
    clear h0 h1 h2 h3 h4 h7 h8 hH
    rintro n st ⟨y, rfl, hy, h0, h1, h2, h3, h4, h7, h8, h9, hH, hr⟩
    repeat refine awp_assoc ?_
    (refine awp_seq_reg fun K hK => ?_); (simp only [go_sem, Nat.reduceBEq, List.length_map, Nat.reduceAdd, beq_self_eq_true, h9, h3, encS]); (refine hK _ ?_); (clear hK K)
    refine awp_seq fun K3 hK3 => ?_
    (refine awp_cond _ rfl (fun hc => ?_) (fun hc => ?_)) <;> (simp only [decide_eq_true_eq, decide_eq_false_iff_not] at hc)
    · have hy' : y < b.length := by omega
      refine awp_skip (hK3 _ ?_); clear hK3 K3
      refine awp_seq fun K3 hK3 => ?_
      refine awp_block ?_
      repeat refine awp_assoc ?_
      have i1 := idxD_map D.str a x hx'
      have i2 := idxD_map D.str b y hy'
      have wx : IntKind.i64.wrap ((x : Int) + 1) = ((x + 1 : Nat) : Int) := wrapI (by omega)
      have wy : IntKind.i64.wrap ((y : Int) + 1) = ((y + 1 : Nat) : Int) := wrapI (by omega)
      have l1 := Lcs.at_le a b (x + 1) (y + 1)
      have wn : IntKind.i64.wrap ((Lcs.at_ a b (x + 1) (y + 1) : Int) + 1) = ((Lcs.at_ a b (x + 1) (y + 1) + 1 : Nat) : Int) := wrapI (by omega)
      have hst := Lcs.inRow_step a b (Lcs.at_ a b i k) x y hy'
      have tail : ∀ st' : St, Lcs.inRow a b (Lcs.at_ a b i k) x k = Lcs.inRow a b (Lcs.at_ a b i k) x (y + 1) → st'.t 0 = .int .i64 i → st'.t 1 = .int .i64 k → st'.t 2 = .rptr (encS a) → st'.t 3 = .rptr (encS b) → st'.t 4 = .rptr (atD a b) → st'.t 7 = .ptr 0 0 → st'.t 8 = .int .i64 x → st'.t 9 = .int .i64 y →
          st'.H 0 = some (.box 33 [.int .i64 0, .int .i64 0]) → K3 st' := by
        intro st' hr h0 h1 h2 h3 h4 h7 h8 h9 hH
        refine hK3 _ ?_
        (refine awp_reg ?_); (simp only [go_sem, Nat.reduceBEq, beq_self_eq_true, h9, wy])
        exact ⟨b.length - (y + 1), by omega, y + 1, rfl, by omega, h0, h1, h2, h3, h4, h7, h8, rfl, hH, hr⟩
      have ea : a[x]? = some a[x] := List.getElem?_eq_getElem hx'
      have eb : b[y]? = some b[y] := List.getElem?_eq_getElem hy'
      by_cases c1 : a[x] = b[y]
      · refine awp_seq_draw (by decide +kernel) fun K hK => ?_
        simp only [go_sem, Nat.reduceBEq, decide_true, reduceCtorEq, ne_eq, not_false_eq_true, Nat.reduceAdd, beq_self_eq_true, h8, h9, h2, h3, h4, i1, i2, encS, c1, wx, wy, atD]
        refine callD_pc (pcAt a b ha hb (x + 1) (y + 1) (by omega) (by omega)) ?_
        simp only [go_sem, Nat.reduceBEq, Nat.reduceAdd, beq_self_eq_true, h4, h0, h1, wn, atD]
        refine callD_pc (pcAt a b ha hb i k hi hk) ?_
        simp only [go_sem, Nat.reduceBEq, beq_self_eq_true]
        refine hK _ ?_
        clear hK K
        (refine awp_cond _ rfl (fun hc => ?_) (fun hc => ?_)) <;> (simp only [decide_eq_true_eq, decide_eq_false_iff_not] at hc)
        · have hg : Lcs.good a b (Lcs.at_ a b i k) x y = true := by
            unfold Lcs.good
            rw [ea, eb, c1]
            have : Lcs.at_ a b (x + 1) (y + 1) + 1 = Lcs.at_ a b i k := by omega
            simp [this]
          (refine awp_seq_reg fun K hK => ?_); (simp only [go_sem, Nat.reduceBEq, Nat.reduceAdd, Nat.reduceLeDiff, Nat.reduceLT, List.length_cons, List.length_nil, beq_self_eq_true, List.set_cons_zero, List.set_cons_succ, Nat.zero_add, h8, h9, h7, hH]); (refine hK _ ?_); (clear hK K)
          (refine awp_ret ?_); (refine Exists.intro _ (And.intro ((show resD _ _ [.cell 7 33] = _ from (by simp only [go_sem, Nat.reduceBEq, Nat.reduceAdd, Nat.reduceLeDiff, Option.some.injEq, List.length_cons, List.length_nil, beq_self_eq_true, List.drop_zero, List.take_succ_cons, List.take_zero, Nat.zero_add, resD, allR, valR, h7]; rfl))) ?_))
          refine ⟨_, sealD_pure 1 rfl, ?_⟩
          rw [if_pos hg] at hst
          have h9 := Lcs.search_step a b (Lcs.at_ a b i k) k x hx'
          rw [hr, hst] at h9
          unfold Lcs.next
          rw [hs, h9]
          exact Le.refl _
        · refine awp_skip (tail _ ?_ h0 h1 h2 h3 h4 h7 h8 h9 hH)
          rw [hr, hst, if_neg]
          unfold Lcs.good
          simp only [Bool.and_eq_true, decide_eq_true_eq]
          omega
      · (refine awp_seq_draw (by decide +kernel) fun K hK => ?_); (simp only [go_sem, Nat.reduceBEq, decide_false, reduceCtorEq, ne_eq, not_false_eq_true, Nat.reduceAdd, beq_self_eq_true, h8, h9, h2, h3, i1, i2, encS, c1]); (refine hK _ ?_); (clear hK K)
        refine awp_cond false rfl (fun hc => (by cases hc)) (fun _ => ?_)
        refine awp_skip (tail _ ?_ h0 h1 h2 h3 h4 h7 h8 h9 hH)
        rw [hr, hst, if_neg]
        unfold Lcs.good
        simp only [Bool.and_eq_true, decide_eq_true_eq, ea, eb, Option.some.injEq]
        exact fun h => c1 h.1
    · refine awp_exit (show K2 _ from hK2 _ ?_)
      have wx : IntKind.i64.wrap ((x : Int) + 1) = ((x + 1 : Nat) : Int) := wrapI (by omega)
      (refine awp_reg ?_); (simp only [go_sem, Nat.reduceBEq, beq_self_eq_true, h8, wx])
      refine ⟨a.length - (x + 1), by omega, x + 1, rfl, by omega, h0, h1, h2, h3, h4, h7, rfl, hH, ?_⟩
      have h9 := Lcs.search_step a b (Lcs.at_ a b i k) k x hx'
      rw [hr, Lcs.inRow_end a b _ x y (by omega)] at h9
      rw [hs, h9]
  · refine awp_exit (show K _ from hK _ ?_)
    (refine awp_seq_reg fun K hK => ?_); (simp only [go_sem, Nat.reduceBEq, List.length_map, Nat.reduceAdd, Nat.reduceLeDiff, Nat.reduceLT, List.length_cons, List.length_nil, beq_self_eq_true, List.set_cons_zero, List.set_cons_succ, Nat.zero_add, h2, h3, h7, hH, encS]); (refine hK _ ?_); (clear hK K)
    (refine awp_ret ?_); (refine Exists.intro _ (And.intro ((show resD _ _ [.cell 7 33] = _ from (by simp only [go_sem, Nat.reduceBEq, Nat.reduceAdd, Nat.reduceLeDiff, Option.some.injEq, List.length_cons, List.length_nil, beq_self_eq_true, List.drop_zero, List.take_succ_cons, List.take_zero, Nat.zero_add, resD, allR, valR, h7]; rfl))) ?_))
    refine ⟨_, sealD_pure 1 rfl, ?_⟩
    unfold Lcs.next
    rw [hs, Lcs.search_end a b _ k x (by omega)]
    exact Le.refl _
end Go.Proofs.Ytophkniaaifmiaa
