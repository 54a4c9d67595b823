/- the walk of lcs.lengths -/
import Derived.Test.YtophkniaaifmiaaLcsAt
import Derived.Test.YtophkniaaifmiaaLisWalk
namespace Go.Proofs.Ytophkniaaifmiaa
open Abs Facts
attribute [local irreducible] awp
theorem rc36 {H : HM} {nx : Nat} (i k w n : Nat) (cs : List Int) (v : Int) (hL : H 2 = some (.box 22 [.osl 1 n])) (hR : H 1 = some (.row 3 n (cs.map (D.int .i64)))) (hW : H 0 = some (.box 3 [.int .i64 (w : Int)])) (hn : cs.length = n)
    (hv : cs[i * w + k]? = some v) (hc : cs.length ≤ 100000) : RC Try.prog 36 [.int .i64 i, .int .i64 k, .ptr 2 0, .ptr 0 0] H nx (.int .i64 v) := by
  refine PC.borrow (pc36 i k w cs v hv hc) rfl 3 ?_
  refine optL_cons (sealD_pure _ rfl) (optL_cons (sealD_pure _ rfl) (optL_cons ?_ (optL_cons ?_ optL_nil)))
  · exact sealD_box 2 hL (by first | rfl | kernel_rfl) (sealD_row 0 hR isAggT3 sizeT3 (by simpa using hn) (pureL_map (fun _ => rfl) _))
  · exact sealD_box 2 hW isAggT3 (sealD_pure _ rfl)
set_option maxRecDepth 100000 in
set_option maxHeartbeats 2000000 in
theorem pc28 (a b : List ByteArray) (ha : a.length ≤ 256) (hb : b.length ≤ 256) : PC Try.prog 28 [encS a, encS b] (.fn 36 [.rptr (encI (Lcs.tab a b)), .rptr (.int .i64 ((b.length + 1 : Nat) : Int))]) := by
  refine PC_intro 4 (by simp only [pureD.pureL, pure_encS, Bool.and_self]) (by simp only [pureD, pureD.pureL, pure_encI, Bool.and_self]) (AC_intro [] Try.func28 rfl (by decide +kernel) mixed (by decide +kernel) (by simp [Try.ntmps28]) ?_)
  show awp _ _ (Code.seq _ _) _ _
  have w1 : IntKind.i64.wrap ((b.length : Int) + 1) = ((b.length + 1 : Nat) : Int) := wrapI (by omega)
  have w2 : IntKind.i64.wrap ((a.length : Int) + 1) = ((a.length + 1 : Nat) : Int) := wrapI (by omega)
  have hm : (a.length + 1) * (b.length + 1) ≤ 66049 := Nat.mul_le_mul (show a.length + 1 ≤ 257 by omega) (show b.length + 1 ≤ 257 by omega)
  have w3 : IntKind.i64.wrap (((a.length + 1 : Nat) : Int) * ((b.length + 1 : Nat) : Int)) = (((a.length + 1) * (b.length + 1) : Nat) : Int) := by rw [← Int.natCast_mul]; exact wrapI (by omega)
  have g1 : (0 : Int) ≤ (((a.length + 1) * (b.length + 1) : Nat) : Int) := by omega
  have g2 : (a.length + 1) * (b.length + 1) * 8 ≤ 140737488355328 := by omega
  have g3 : (((a.length + 1) * (b.length + 1) : Nat) : Int) ≤ 9223372036854775807 := by omega
  (refine awp_seq_reg fun K hK => ?_); (simp only [go_sem]); (refine hK _ ?_); (clear hK K)
  repeat refine awp_assoc ?_
  (refine awp_seq_reg fun K hK => ?_); (simp only [go_sem, Nat.reduceBEq, List.length_map, Nat.reduceLeDiff, Nat.reduceLT, List.length_cons, List.length_nil, beq_self_eq_true, List.set_cons_zero, Nat.zero_add, encS, w1]); (refine hK _ ?_); (clear hK K)
  repeat refine awp_assoc ?_
  (refine awp_seq_reg fun K hK => ?_); (simp only [go_sem, Nat.reduceBEq, List.length_map, Nat.reduceAdd, Nat.reduceLeDiff, Nat.reduceLT, List.length_cons, List.length_nil, beq_self_eq_true, List.drop_zero, List.set_cons_zero, List.take_succ_cons, List.take_zero, Int.toNat_natCast, Nat.zero_add, w2, w3, g1, g2, g3, flat_rep (D.int .i64) 0 ((a.length + 1) * (b.length + 1))]); (refine hK _ ?_); (clear hK K)
  repeat refine awp_assoc ?_
  (refine awp_seq_reg fun K hK => ?_); (simp only [go_sem, Nat.reduceBEq, beq_self_eq_true]); (refine hK _ ?_); (clear hK K)
  have w4 : IntKind.i64.wrap ((a.length : Int) - 1) = (a.length : Int) - 1 := wrapI (by omega)
  have w5 : IntKind.i64.wrap ((b.length : Int) - 1) = (b.length : Int) - 1 := wrapI (by omega)
  repeat refine awp_assoc ?_
  (refine awp_seq_reg fun K hK => ?_); (simp only [go_sem, Nat.reduceBEq, List.length_map, beq_self_eq_true, w4]); (refine hK _ ?_); (clear hK K)
  refine awp_seq fun K hK => ?_
  refine awp_block (awp_loop (fun n st => ∃ cs : List Int, n ≤ a.length ∧ st.t 0 = encS a ∧ st.t 1 = encS b ∧ st.t 5 = .ptr 0 0 ∧ st.t 6 = .ptr 2 0 ∧ st.t 7 = .fn 36 [.ptr 2 0, .ptr 0 0] ∧ st.t 8 = .int .i64 ((n : Int) - 1) ∧
      st.H 0 = some (.box 3 [.int .i64 ((b.length + 1 : Nat) : Int)]) ∧ st.H 1 = some (.row 3 ((a.length + 1) * (b.length + 1)) (cs.map (D.int .i64))) ∧ st.H 2 = some (.box 22 [.osl 1 ((a.length + 1) * (b.length + 1))]) ∧
      Lcs.Known a b cs n 0) a.length ?_ ?_)
  · exact ⟨List.replicate ((a.length + 1) * (b.length + 1)) 0, Nat.le_refl _, rfl, rfl, rfl, rfl, rfl, rfl, rfl, rfl, rfl, Lcs.known_zero a b⟩
  rintro n st ⟨cs, hn, h0, h1, h5, h6, h7, h8, hH0, hH1, hH2, hk⟩
  repeat refine awp_assoc ?_
  (refine awp_seq_reg fun K hK => ?_); (simp only [go_sem, beq_self_eq_true, h8]); (refine hK _ ?_); (clear hK K)
  refine awp_seq fun K2 hK2 => ?_
  (refine awp_cond _ rfl (fun hc => ?_) (fun hc => ?_)) <;> (simp only [decide_eq_true_eq, decide_eq_false_iff_not] at hc)
  · obtain ⟨i, rfl⟩ : ∃ i, n = i + 1 := ⟨n - 1, by omega⟩
    have h8' : st.t 8 = .int .i64 (i : Int) := by rw [h8]; congr 1; omega
    refine awp_skip (hK2 _ ?_); clear hK2 K2 h8
    repeat refine awp_assoc ?_
    refine awp_seq fun K2 hK2 => ?_
    refine awp_block ?_
    repeat refine awp_assoc ?_
    (refine awp_seq_reg fun K hK => ?_); (simp only [go_sem, Nat.reduceBEq, List.length_map, beq_self_eq_true, h1, encS, w5]); (refine hK _ ?_); (clear hK K)
    refine awp_block (awp_loop (fun m st => ∃ cs : List Int, m ≤ b.length ∧ st.t 0 = encS a ∧ st.t 1 = encS b ∧ st.t 5 = .ptr 0 0 ∧ st.t 6 = .ptr 2 0 ∧ st.t 7 = .fn 36 [.ptr 2 0, .ptr 0 0] ∧ st.t 8 = .int .i64 (i : Int) ∧ st.t 9 = .int .i64 ((m : Int) - 1) ∧
      st.H 0 = some (.box 3 [.int .i64 ((b.length + 1 : Nat) : Int)]) ∧ st.H 1 = some (.row 3 ((a.length + 1) * (b.length + 1)) (cs.map (D.int .i64))) ∧ st.H 2 = some (.box 22 [.osl 1 ((a.length + 1) * (b.length + 1))]) ∧
      Lcs.Known a b cs i m) b.length ?_ ?_)
    · exact ⟨cs, Nat.le_refl _, h0, h1, h5, h6, h7, h8', rfl, hH0, hH1, hH2, Lcs.known_row hk⟩
    clear h0 h1 h5 h6 h7 h8' hH0 hH1 hH2 hk
    rintro m st ⟨cs, hm', h0, h1, h5, h6, h7, h8, h9, hH0, hH1, hH2, hk⟩
    repeat refine awp_assoc ?_
    (refine awp_seq_reg fun K hK => ?_); (simp only [go_sem, beq_self_eq_true, h9]); (refine hK _ ?_); (clear hK K)
    refine awp_seq fun K3 hK3 => ?_
    (refine awp_cond _ rfl (fun hc => ?_) (fun hc => ?_)) <;> (simp only [decide_eq_true_eq, decide_eq_false_iff_not] at hc)
    · obtain ⟨k, rfl⟩ : ∃ k, m = k + 1 := ⟨m - 1, by omega⟩
      have h9' : st.t 9 = .int .i64 (k : Int) := by rw [h9]; congr 1; omega
      refine awp_skip (hK3 _ ?_); clear hK3 K3 h9
      repeat refine awp_assoc ?_
      refine awp_seq fun K3 hK3 => ?_
      refine awp_block ?_
      repeat refine awp_assoc ?_
      have wi : IntKind.i64.wrap ((i : Int) + 1) = ((i + 1 : Nat) : Int) := wrapI (by omega)
      have wk : IntKind.i64.wrap ((k : Int) + 1) = ((k + 1 : Nat) : Int) := wrapI (by omega)
      have v1 := hk.2 (i + 1) k (by omega) (by omega) (.inl (by omega))
      have v2 := hk.2 i (k + 1) (by omega) (by omega) (.inr (.inl ⟨rfl, by omega⟩))
      have v3 := hk.2 (i + 1) (k + 1) (by omega) (by omega) (.inl (by omega))
      have l1 := Lcs.at_le a b (i + 1) k
      have l2 := Lcs.at_le a b i (k + 1)
      have l3 := Lcs.at_le a b (i + 1) (k + 1)
      have hcl : cs.length ≤ 100000 := by rw [hk.1]; omega
      refine awp_seq_reg fun K hK => ?_
      simp only [go_sem, Nat.reduceBEq, beq_self_eq_true, h7, h8, h9', wi]
      refine callW_rc (rc36 (i + 1) k (b.length + 1) _ cs _ hH2 hH1 hH0 hk.1 v1 hcl) ?_
      simp only [go_sem, Nat.reduceBEq, beq_self_eq_true, h7, h8, h9', wk]
      refine callW_rc (rc36 i (k + 1) (b.length + 1) _ cs _ hH2 hH1 hH0 hk.1 v2 hcl) ?_
      simp only [go_sem, Nat.reduceBEq, beq_self_eq_true]
      refine hK _ ?_
      clear hK K
      have hlt : i * (b.length + 1) + k < (a.length + 1) * (b.length + 1) := Lcs.idx_lt (by omega) (by omega)
      have wm : IntKind.i64.wrap ((i : Int) * ((b.length + 1 : Nat) : Int)) = ((i * (b.length + 1) : Nat) : Int) := by rw [← Int.natCast_mul]; exact wrapI (by omega)
      have wp : IntKind.i64.wrap (((i * (b.length + 1) : Nat) : Int) + (k : Int)) = ((i * (b.length + 1) + k : Nat) : Int) := wrapI (by omega)
      have hin : ((i * (b.length + 1) + k : Nat) : Int) < (((a.length + 1) * (b.length + 1) : Nat) : Int) := by omega
      have hin2 : i * (b.length + 1) + k + 1 ≤ (a.length + 1) * (b.length + 1) := by omega
      have hkl := hk.1
      refine awp_seq fun K4 hK4 => ?_
      have tail : ∀ st' : St, st'.t 0 = encS a → st'.t 1 = encS b → st'.t 5 = .ptr 0 0 → st'.t 6 = .ptr 2 0 → st'.t 7 = .fn 36 [.ptr 2 0, .ptr 0 0] → st'.t 8 = .int .i64 (i : Int) → st'.t 9 = .int .i64 (k : Int) → st'.t 10 = .int .i64 (Lcs.at_ a b i k : Int) →
          st'.H 0 = some (.box 3 [.int .i64 ((b.length + 1 : Nat) : Int)]) → st'.H 1 = some (.row 3 ((a.length + 1) * (b.length + 1)) (cs.map (D.int .i64))) → st'.H 2 = some (.box 22 [.osl 1 ((a.length + 1) * (b.length + 1))]) → K4 st' := by
        intro st' h0 h1 h5 h6 h7 h8 h9 h10 hH0 hH1 hH2
        refine hK4 _ ?_
        (refine awp_reg ?_); (simp only [go_sem, Nat.reduceBEq, reduceCtorEq, ne_eq, not_false_eq_true, List.length_map, Nat.reduceAdd, Nat.reduceLeDiff, Nat.reduceLT, List.length_cons, List.length_nil, beq_self_eq_true, List.drop_zero, List.take_succ_cons, List.take_zero, Int.toNat_natCast, Nat.mul_one, Nat.zero_add, Int.natCast_nonneg, h5, h6, h8, h9, h10, hH0, hH1, hH2, wm, wp, hin, hin2, hkl, map_set'])
        refine (show K3 _ from hK3 _ ?_)
        have wk2 : IntKind.i64.wrap ((k : Int) - 1) = (k : Int) - 1 := wrapI (by omega)
        (refine awp_reg ?_); (simp only [go_sem, Nat.reduceBEq, beq_self_eq_true, h9, wk2])
        exact ⟨k, by omega, cs.set (i * (b.length + 1) + k) (Lcs.at_ a b i k : Int), by omega, h0, h1, h5, h6, h7, h8, rfl, hH0, rfl, hH2, Lcs.known_set (by omega) (by omega) hk⟩
      have i1 := idxD_map D.str a i (by omega)
      have i2 := idxD_map D.str b k (by omega)
      have hst := Lcs.at_step a b i k (by omega) (by omega)
      (refine awp_seq_draw (by decide +kernel) fun K hK => ?_); (simp only [go_sem, Nat.reduceBEq, reduceCtorEq, ne_eq, not_false_eq_true, Nat.reduceAdd, beq_self_eq_true, h0, h1, h8, h9', i1, i2, encS]); (refine hK _ ?_); (clear hK K)
      (refine awp_cond _ rfl (fun hc => ?_) (fun hc => ?_)) <;> (simp only [decide_eq_true_eq, decide_eq_false_iff_not] at hc)
      · have w6 : IntKind.i64.wrap ((Lcs.at_ a b (i + 1) (k + 1) : Int) + 1) = (Lcs.at_ a b (i + 1) (k + 1) : Int) + 1 := wrapI (by omega)
        rw [if_pos hc] at hst
        refine awp_reg ?_
        simp only [go_sem, Nat.reduceBEq, beq_self_eq_true, h7, h8, h9', wi, wk]
        refine callW_rc (rc36 (i + 1) (k + 1) (b.length + 1) _ cs _ hH2 hH1 hH0 hk.1 v3 hcl) ?_
        simp only [go_sem, Nat.reduceBEq, beq_self_eq_true, w6]
        refine (show K4 _ from tail _ h0 h1 h5 h6 h7 h8 h9' ?_ hH0 hH1 hH2)
        show D.int .i64 _ = D.int .i64 _
        rw [hst]; congr 1; omega
      · rw [if_neg hc] at hst
        refine awp_skip (tail _ h0 h1 h5 h6 h7 h8 h9' ?_ hH0 hH1 hH2)
        show D.int .i64 _ = D.int .i64 _
        rw [hst]; congr 1; omega
    · refine awp_exit (show K2 _ from hK2 _ ?_)
      obtain rfl : m = 0 := by omega
      have wi2 : IntKind.i64.wrap ((i : Int) - 1) = (i : Int) - 1 := wrapI (by omega)
      (refine awp_reg ?_); (simp only [go_sem, Nat.reduceBEq, beq_self_eq_true, h8, wi2])
      exact ⟨i, by omega, cs, by omega, h0, h1, h5, h6, h7, rfl, hH0, hH1, hH2, hk⟩
  · refine awp_exit (show K _ from hK _ ?_)
    obtain rfl : n = 0 := by omega
    have hcs := Lcs.known_all hk
    subst hcs
    (refine awp_seq_reg fun K hK => ?_); (simp only [go_sem, Nat.reduceBEq, beq_self_eq_true, h7]); (refine hK _ ?_); (clear hK K)
    (refine awp_ret ?_); (refine Exists.intro _ (And.intro rfl ?_))
    refine fin_of (sealD_fn 3 rfl (optL_cons ?_ (optL_cons ?_ optL_nil)))
    · exact sealD_box 2 hH2 (by first | rfl | kernel_rfl) (sealD_row 0 hH1 isAggT3 sizeT3 (by simpa using Lcs.tab_len a b) (pureL_map (fun _ => rfl) _))
    · exact sealD_box 2 hH0 isAggT3 (sealD_pure _ rfl)
end Go.Proofs.Ytophkniaaifmiaa
