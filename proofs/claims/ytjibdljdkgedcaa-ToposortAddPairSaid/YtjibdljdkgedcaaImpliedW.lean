/-
  The walk of the law ToposortImplied. No condition but lengths.
-/
import Derived.Test.YtjibdljdkgedcaaLawPlain
import Derived.Test.YtjibdljdkgedcaaRefMust
import Derived.Test.YtjibdljdkgedcaaCycleW
namespace Go.Proofs.Ytjibdljdkgedcaa
open Abs Facts Topo
attribute [local irreducible] awp
namespace Topo
theorem sort_pair {m : Nat} {l : List Pr} (hm : m ≤ 16) (hl : okL m l) (hlen : l.length ≤ 64) : ∃ f : Int, (f = 0 ∨ f = 14) ∧ (f = 0 ↔ Acyc l) ∧ ∃ r, sortR m l = (f, r) := by
  obtain ⟨h1, h2⟩ := wrong_of hm hl hlen
  rw [sortR_ok hm hl h2 h1]
  have := order_iff hl
  cases ho : orderF l m m [] with
  | none => rw [ho] at this; exact ⟨14, .inr rfl, by simpa using this, _, rfl⟩
  | some r => rw [ho] at this; exact ⟨0, .inl rfl, by simpa using this, _, rfl⟩
end Topo
set_option maxRecDepth 100000 in
set_option maxHeartbeats 8000000 in
theorem pc_LawImplied (n : Int) (l : List Pr) (a b : Int) (hl : l.length ≤ maxLen) : PC Try.prog 7 [.int .i64 n, encPs l, .int .i64 a, .int .i64 b] (.bool true) := by
  refine PC_intro 1 (by simp only [pureD.pureL, pure_encPs, pureD, Bool.and_self]) rfl (AC_intro [90, 2000097] Try.func7 rfl (by decide +kernel) mixed (by decide +kernel) (by simp [Try.ntmps7]) ?_)
  show awp _ _ (Code.seq _ _) _ _
  have hpm := pc_Implied n l hl
  have hpw := pc_Wrong n l hl
  by_cases hw : wrong n l = 0
  · obtain ⟨m, rfl, hm, hok, hlen, hg⟩ := wrong_pos hw
    have hpo := pc_Order m l (by omega) hl
    rw [hw] at hpw
    cases ho : orderF l m m [] with
    | none =>
      have hR : impliedR m l = [] := by
        unfold impliedR; rw [if_pos]
        rw [sortR_ok hm hok hg hw, ho]; decide
      rw [hR] at hpm
      rw [ho] at hpo
      simp only [Option.getD_none, Option.isSome_none] at hpo
      repeat' (first | refine awp_assoc ?_ | ((first | refine awp_seq_reg fun K hK => ?_ | refine awp_seq_draw (by decide +kernel) fun K hK => ?_ | refine awp_reg' fun K hK => ?_ | refine awp_draw' (by decide +kernel) fun K hK => ?_); (simp (disch := omega) only [go_sem, Nat.reduceBEq, encPs])) | ((first | refine awp_seq_cond _ rfl (fun hc => ?_) (fun hc => ?_) | refine awp_cond _ rfl (fun hc => ?_) (fun hc => ?_)) <;> (first | (cases hc; done) | ((try simp only [decide_eq_true_eq, decide_eq_false_iff_not] at hc); (try (exfalso; omega))))) | refine awp_seq_block ?_ | refine awp_block ?_ | refine awp_seq_skip ?_ | refine awp_seq_ret ?_ | refine awp_seq_exit ?_ | refine awp_skip ?_ | refine awp_exit ?_ | refine awp_ret ?_ | refine seqK_n ?_ | refine seqK_e ?_ | refine seqK_r ?_ | refine blkK_n ?_ | refine blkK_e ?_ | refine blkK_o rfl ?_ | refine blkK_r ?_ | refine loopK_e ?_ | refine loopK_r ?_ | (first | refine retQ_K (by (simp (disch := omega) only [go_sem]); rfl) ?_ | refine retQ_K' (by (simp (disch := omega) only [go_sem]); rfl) ?_) | (refine hK _ ?_; clear hK K) | ((first | refine callW_pc (pc_awake) ?_ | refine callD_pc (pc_awake) ?_); (simp (disch := omega) only [go_sem, Nat.reduceBEq])) | ((first | refine callW_pc (hpm) ?_ | refine callD_pc (hpm) ?_); (simp (disch := omega) only [go_sem, Nat.reduceBEq, encPs])) | ((first | refine callW_pc (hpw) ?_ | refine callD_pc (hpw) ?_); (simp (disch := omega) only [go_sem, Nat.reduceBEq])) | ((first | refine callW_pc (hpo) ?_ | refine callD_pc (hpo) ?_); (simp (disch := omega) only [go_sem, Nat.reduceBEq, encN])) | (refine stepG_split (fun hb => ?_) (fun hb => ?_) <;> (have hb2 := hb; try simp only [decide_eq_true_eq, decide_eq_false_iff_not, Classical.not_not, beq_iff_eq, beq_eq_false_iff_ne, bne_iff_ne, ne_eq, Bool.not_eq_true', Bool.not_eq_false', Bool.and_eq_true, Bool.or_eq_true, Bool.and_eq_false_imp, Bool.or_eq_false_iff, Bool.not_eq_true, Bool.not_eq_false] at hb2) <;> ((first | have hb3 : (_ : Bool) = _ := hb2 | have hb3 := eq_false hb2 | have hb3 := eq_true hb2); (simp (disch := omega) only [go_sem, Nat.reduceBEq, Nat.reduceBeqDiff, Nat.reduceEqDiff, reduceIte, reduceCtorEq, Nat.reduceAdd, Nat.reduceMul, Nat.reduceLeDiff, Nat.reduceLT, Int.reduceLT, Int.reduceLE, Int.reduceEq, hb, hb3, encPs, encN]); clear hb hb3; (try (exfalso; omega)))) | (exfalso; omega))
      all_goals first | exact fin_bool rfl | skip
    | some r =>
      have hac := (order_iff hok).1 (by rw [ho]; rfl)
      have hR : impliedR m l = impliedF m (farL (edges l) m) := by
        unfold impliedR; rw [if_neg, Int.toNat_natCast, hg]
        rw [sortR_ok hm hok hg hw, ho]; simp
      rw [hR] at hpm
      rw [ho] at hpo
      simp only [Option.getD_some, Option.isSome_some] at hpo
      have hmem := fun (a b : Nat) (ha : a < m) (hb : b < m) => implied_mem hm hok hac ha hb
      have hpu := pc_Must m hm l hl
      rw [← implied_must hm hok hac] at hpu
      have hil : (impliedF m (farL (edges l) m)).length ≤ 256 := Nat.le_trans (allP_length _ m m) (Nat.le_trans (Nat.mul_le_mul hm hm) (by decide))
      generalize impliedF m (farL (edges l) m) = q at *
      have hpp := pc_Pairs q q (by unfold maxLen; omega) (by unfold maxLen; omega)
      simp only [decide_true] at hpp
      repeat' (first | refine awp_assoc ?_ | ((first | refine awp_seq_reg fun K hK => ?_ | refine awp_seq_draw (by decide +kernel) fun K hK => ?_ | refine awp_reg' fun K hK => ?_ | refine awp_draw' (by decide +kernel) fun K hK => ?_); (simp (disch := omega) only [go_sem, Nat.reduceBEq, encPs])) | ((first | refine awp_seq_cond _ rfl (fun hc => ?_) (fun hc => ?_) | refine awp_cond _ rfl (fun hc => ?_) (fun hc => ?_)) <;> (first | (cases hc; done) | ((try simp only [decide_eq_true_eq, decide_eq_false_iff_not] at hc); (try (exfalso; omega))))) | refine awp_seq_block ?_ | refine awp_block ?_ | refine awp_seq_skip ?_ | refine awp_seq_ret ?_ | refine awp_seq_exit ?_ | refine awp_skip ?_ | refine awp_exit ?_ | refine awp_ret ?_ | refine seqK_n ?_ | refine seqK_e ?_ | refine seqK_r ?_ | refine blkK_n ?_ | refine blkK_e ?_ | refine blkK_o rfl ?_ | refine blkK_r ?_ | refine loopK_e ?_ | refine loopK_r ?_ | (first | refine retQ_K (by (simp (disch := omega) only [go_sem]); rfl) ?_ | refine retQ_K' (by (simp (disch := omega) only [go_sem]); rfl) ?_) | (refine hK _ ?_; clear hK K) | ((first | refine callW_pc (pc_awake) ?_ | refine callD_pc (pc_awake) ?_); (simp (disch := omega) only [go_sem, Nat.reduceBEq])) | ((first | refine callW_pc (hpm) ?_ | refine callD_pc (hpm) ?_); (simp (disch := omega) only [go_sem, Nat.reduceBEq, encPs])) | ((first | refine callW_pc (hpw) ?_ | refine callD_pc (hpw) ?_); (simp (disch := omega) only [go_sem, Nat.reduceBEq])) | ((first | refine callW_pc (hpo) ?_ | refine callD_pc (hpo) ?_); (simp (disch := omega) only [go_sem, Nat.reduceBEq])) | ((first | refine callW_pc (hpu) ?_ | refine callD_pc (hpu) ?_); (simp (disch := omega) only [go_sem, Nat.reduceBEq, encPs])) | ((first | refine callW_pc (hpp) ?_ | refine callD_pc (hpp) ?_); (simp (disch := omega) only [go_sem, Nat.reduceBEq])) | (refine stepG_split (fun hb => ?_) (fun hb => ?_) <;> (have hb2 := hb; try simp only [decide_eq_true_eq, decide_eq_false_iff_not, Bool.not_eq_true', Bool.not_eq_false'] at hb2) <;> ((first | have hb3 : (_ : Bool) = _ := hb2 | have hb3 := eq_false hb2 | have hb3 := eq_true hb2); (simp (disch := omega) only [go_sem, Nat.reduceBEq, hb3]); clear hb hb3; (try (exfalso; omega)))) | (exfalso; omega))
      all_goals first | exact fin_bool rfl | skip
      obtain ⟨a, rfl⟩ : ∃ x : Nat, a = x := ⟨a.toNat, by omega⟩
      obtain ⟨b, rfl⟩ : ∃ x : Nat, b = x := ⟨b.toNat, by omega⟩
      (refine awp_loop' (fun mz st => ∃ (i : _), mz = q.length - i ∧ st.t 0 = .int .i64 m ∧ st.t 1 = encPs l ∧ st.t 2 = .int .i64 a ∧ st.t 3 = .int .i64 b ∧ st.t 12 = .bool (hasP (q.take i) a b) ∧ st.t 73 = encPs q ∧ st.t 74 = .int .i64 q.length ∧ st.t 75 = .int .i64 i ∧ (i ≤ q.length)) ?_ ?_); rotate_left; (rintro mz st ⟨i, rfl, s0, s1, s2, s3, s12, s73, s74, s75, sp0⟩); rotate_left
      · (refine ⟨_, 0, rfl, ?_⟩); (simp (disch := omega) only [go_sem, Nat.reduceBEq, true_and, and_true, and_self, Int.natCast_zero, encPs])
        try rfl
      have hok2 := okL_snoc hok (show b < m by omega) (show a < m by omega)
      obtain ⟨f, hf, hf2, r2, hsr⟩ := sort_pair hm hok2 (by simp; omega)
      have hps2 := pc_Sort m (l ++ [((b : Int), (a : Int))]) (by unfold maxLen; simp; omega)
      rw [hsr] at hps2
      simp only [encPs, List.map_append, List.map_cons, List.map_nil, encP] at hps2
      repeat' (first | refine awp_assoc ?_ | ((first | refine awp_seq_reg fun K hK => ?_ | refine awp_seq_draw (by decide +kernel) fun K hK => ?_ | refine awp_reg' fun K hK => ?_ | refine awp_draw' (by decide +kernel) fun K hK => ?_); (simp (disch := omega) only [go_sem, Nat.reduceBEq, reduceCtorEq, Nat.reduceAdd, Nat.reduceMul, Nat.reduceLeDiff, s0, s1, s2, s3, s12, s73, s74, s75, encPs, encP])) | ((first | refine awp_seq_cond _ rfl (fun hc => ?_) (fun hc => ?_) | refine awp_cond _ rfl (fun hc => ?_) (fun hc => ?_)) <;> (first | (cases hc; done) | ((try simp only [decide_eq_true_eq, decide_eq_false_iff_not] at hc); (try (exfalso; omega))))) | refine awp_seq_block ?_ | refine awp_block ?_ | refine awp_seq_skip ?_ | refine awp_seq_ret ?_ | refine awp_seq_exit ?_ | refine awp_skip ?_ | refine awp_exit ?_ | refine awp_ret ?_ | refine seqK_n ?_ | refine seqK_e ?_ | refine seqK_r ?_ | refine blkK_n ?_ | refine blkK_e ?_ | refine blkK_o rfl ?_ | refine blkK_r ?_ | refine loopK_e ?_ | refine loopK_r ?_ | (first | refine retQ_K (by (simp (disch := omega) only [go_sem]); rfl) ?_ | refine retQ_K' (by (simp (disch := omega) only [go_sem]); rfl) ?_) | (refine hK _ ?_; clear hK K) | ((first | refine callW_pc (hps2) ?_ | refine callD_pc (hps2) ?_); (simp (disch := omega) only [go_sem, Nat.reduceBEq])) | (refine stepG_split (fun hb => ?_) (fun hb => ?_) <;> (have hb2 := hb; try simp only [Bool.not_eq_true', Bool.not_eq_false'] at hb2) <;> ((first | have hb3 : (_ : Bool) = _ := hb2 | have hb3 := eq_false hb2 | have hb3 := eq_true hb2); (simp (disch := omega) only [go_sem, Nat.reduceBEq, Nat.reduceAdd, Nat.reduceLeDiff, hb3, s2, s3]); clear hb hb3; (try (exfalso; omega)))) | (exfalso; omega))
      · have h1 : hasP (q.take (i + 1)) a b = (decide (q[i].1 = (a : Int)) && decide (q[i].2 = (b : Int))) := by
          unfold hasP at *
          rw [List.take_succ_eq_append_getElem (by omega), List.any_append, ‹(q.take i).any _ = false›]; simp
        (refine Exists.intro _ (And.intro ?_ ⟨i + 1, rfl, ?_⟩)); rotate_left; (simp (disch := omega) only [go_sem, Nat.reduceBEq, s0, s1, s2, s3, s12, s73, s74, s75, true_and, Int.natCast_add, Int.natCast_one, h1]); rotate_left
        · omega
        · first | omega | exact ⟨trivial, by omega⟩
      · have h1 : hasP (q.take (i + 1)) a b = true := by
          unfold hasP at *
          rw [List.take_succ_eq_append_getElem (by omega), List.any_append, ‹(q.take i).any _ = true›]; rfl
        (refine Exists.intro _ (And.intro ?_ ⟨i + 1, rfl, ?_⟩)); rotate_left; (simp (disch := omega) only [go_sem, Nat.reduceBEq, s0, s1, s2, s3, s12, s73, s74, s75, true_and, Int.natCast_add, Int.natCast_one, h1]); rotate_left
        · omega
        · first | omega | exact ⟨trivial, by omega⟩
      · have hq : q.take i = q := List.take_of_length_le (by omega)
        refine fin_bool ?_
        rw [hq]
        have hin : hasP q a b = true ↔ ∃ m, Path l (m + 1) a b := by
          rw [← hmem a b (by omega) (by omega)]
          unfold hasP
          rw [List.any_eq_true]
          constructor
          · rintro ⟨p, hp, h⟩
            have h : p.1 = (a : Int) ∧ p.2 = (b : Int) := by simpa using h
            have e : p = ((a : Int), (b : Int)) := Prod.ext h.1 h.2
            exact e ▸ hp
          · intro h; exact ⟨_, h, by simp⟩
        have hcyc : f = 14 ↔ ∃ m, Path l (m + 1) a b := by
          have h1 := acyc_snoc hac (a := b) (b := a)
          have h2 : (∃ m, Path l m a b) ↔ ∃ m, Path l (m + 1) a b := by
            constructor
            · rintro ⟨m, h⟩
              cases m with
              | zero =>
                have h : a = b := h
                subst h; simp at *
              | succ m => exact ⟨m, h⟩
            · rintro ⟨m, h⟩; exact ⟨m + 1, h⟩
          rw [h1, h2] at hf2
          constructor
          · intro h
            apply Classical.byContradiction
            intro hn
            have := hf2.2 hn
            omega
          · intro h
            rcases hf with rfl | rfl
            · exact absurd h (hf2.1 rfl)
            · rfl
        have : hasP q a b = decide (f = 14) := by rw [Bool.eq_iff_iff, hin, decide_eq_true_iff, hcyc]
        rw [this]; simp
  · have hR : impliedR n l = [] := by
      unfold impliedR; rw [if_pos]
      unfold sortR; rw [if_pos hw]; exact hw
    rw [hR] at hpm
    skip
    repeat' (first | refine awp_assoc ?_ | ((first | refine awp_seq_reg fun K hK => ?_ | refine awp_seq_draw (by decide +kernel) fun K hK => ?_ | refine awp_reg' fun K hK => ?_ | refine awp_draw' (by decide +kernel) fun K hK => ?_); (simp (disch := omega) only [go_sem, Nat.reduceBEq, encPs])) | ((first | refine awp_seq_cond _ rfl (fun hc => ?_) (fun hc => ?_) | refine awp_cond _ rfl (fun hc => ?_) (fun hc => ?_)) <;> (first | (cases hc; done) | ((try simp only [decide_eq_true_eq, decide_eq_false_iff_not, Classical.not_not] at hc); (try (exfalso; omega))))) | refine awp_seq_block ?_ | refine awp_block ?_ | refine awp_seq_skip ?_ | refine awp_seq_ret ?_ | refine awp_seq_exit ?_ | refine awp_skip ?_ | refine awp_exit ?_ | refine awp_ret ?_ | refine seqK_n ?_ | refine seqK_e ?_ | refine seqK_r ?_ | refine blkK_n ?_ | refine blkK_e ?_ | refine blkK_o rfl ?_ | refine blkK_r ?_ | refine loopK_e ?_ | refine loopK_r ?_ | (first | refine retQ_K (by (simp (disch := omega) only [go_sem]); rfl) ?_ | refine retQ_K' (by (simp (disch := omega) only [go_sem]); rfl) ?_) | (refine hK _ ?_; clear hK K) | ((first | refine callW_pc (pc_awake) ?_ | refine callD_pc (pc_awake) ?_); (simp (disch := omega) only [go_sem, Nat.reduceBEq])) | ((first | refine callW_pc (hpm) ?_ | refine callD_pc (hpm) ?_); (simp (disch := omega) only [go_sem, Nat.reduceBEq, encPs])) | ((first | refine callW_pc (hpw) ?_ | refine callD_pc (hpw) ?_); (simp (disch := omega) only [go_sem, Nat.reduceBEq])) | (refine stepG_split (fun hb => ?_) (fun hb => ?_) <;> (have hb2 := hb; try simp only [decide_eq_true_eq, decide_eq_false_iff_not, Classical.not_not, beq_iff_eq, beq_eq_false_iff_ne, bne_iff_ne, ne_eq, Bool.not_eq_true', Bool.not_eq_false', Bool.and_eq_true, Bool.or_eq_true, Bool.and_eq_false_imp, Bool.or_eq_false_iff, Bool.not_eq_true, Bool.not_eq_false] at hb2) <;> ((first | have hb3 : (_ : Bool) = _ := hb2 | have hb3 := eq_false hb2 | have hb3 := eq_true hb2); (simp (disch := omega) only [go_sem, Nat.reduceBEq, Nat.reduceBeqDiff, Nat.reduceEqDiff, reduceIte, reduceCtorEq, Nat.reduceAdd, Nat.reduceMul, Nat.reduceLeDiff, Nat.reduceLT, Int.reduceLT, Int.reduceLE, Int.reduceEq, hb, hb3, encPs]); clear hb hb3; (try (exfalso; omega)))) | (exfalso; omega))
    all_goals first | exact fin_bool rfl | skip
end Go.Proofs.Ytjibdljdkgedcaa
