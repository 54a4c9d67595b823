import Derived.Test.YtjibdljdkgedcaaImpliedW
import Derived.Test.YtjibdljdkgedcaaCountSumW
import Derived.Test.YtjibdljdkgedcaaGlue
/-
  The walk of the law ToposortAddPair. No condition but lengths.
-/
namespace Go.Proofs.Ytjibdljdkgedcaa
open Abs Facts Topo
attribute [local irreducible] awp
set_option maxRecDepth 100000 in
set_option maxHeartbeats 8000000 in
theorem pc_LawAddPair (n : Int) (l : List Pr) (p : Pr) (hl : l.length ≤ maxLen) : PC Try.prog 8 [.int .i64 n, encPs l, encP p] (.bool true) := by
  refine PC_intro 1 (by simp only [pureD.pureL, pure_encPs, encP, pureD, Bool.and_self]) rfl (AC_intro [27, 2000032, 3000030, 45, 2000050, 3000048] Try.func8 rfl (by decide +kernel) mixed (by decide +kernel) (by simp [Try.ntmps8]) ?_)
  show awp _ _ (Code.seq _ _) _ _
  obtain ⟨a, b⟩ := p
  have hps := pc_Count n l hl
  have hpw : l.length ≤ 40 → _ := fun h => pc_Wrong n (l ++ [(a, b)]) (by unfold maxLen; simp; omega)
  simp only [encPs, List.map_append, List.map_cons, List.map_nil, encP] at hpw
  by_cases hw : wrong n (l ++ [(a, b)]) = 0
  · obtain ⟨m, rfl, hm, hok2, hlen, hg⟩ := wrong_pos hw
    have hab := (okP_iff m (a, b)).1 (hok2 (a, b) (by simp))
    obtain ⟨a, rfl⟩ : ∃ x : Nat, a = x := ⟨a.toNat, by omega⟩
    obtain ⟨b, rfl⟩ : ∃ x : Nat, b = x := ⟨b.toNat, by omega⟩
    have hok : okL m l := fun p hp => hok2 p (List.mem_append_left _ hp)
    simp only [List.length_append, List.length_cons, List.length_nil] at hlen
    obtain ⟨f, hf, hf2, hcr⟩ := count_pair hm hok (by omega)
    obtain ⟨g, hg0, hg2, hcr2⟩ := count_pair hm hok2 (by simp; omega)
    have hle := add_le hok (show a < m by omega) (show b < m by omega)
    have hps2 := pc_Count m (l ++ [((a : Int), (b : Int))]) (by unfold maxLen; simp; omega)
    simp only [encPs, List.map_append, List.map_cons, List.map_nil, encP] at hps2
    rw [hcr] at hps
    rw [hcr2] at hps2
    rw [hw] at hpw
    simp only [encPs] at hps
    by_cases hac : Acyc l
    · have heq := add_eq hok hac (show a < m by omega) (show b < m by omega)
      have hpos := (compl_iff hok).2 hac
      have hf0 : f = 0 := hf2.2 hpos
      subst hf0
      obtain ⟨hw1, hg1⟩ := wrong_of hm hok (by omega)
      have hsr : (sortR m l).1 = 0 := by
        obtain ⟨f, _, hf2, r, hr⟩ := sort_pair hm hok (by omega)
        rw [hr]; exact hf2.2 hac
      have hR : impliedR m l = impliedF m (farL (edges l) m) := by
        unfold impliedR; rw [if_neg (by simp [hsr]), Int.toNat_natCast, hg1]
      have hpm := pc_Implied m l hl
      rw [hR] at hpm
      have hmem := implied_mem hm hok hac (show a < m by omega) (show b < m by omega)
      have hil : (impliedF m (farL (edges l) m)).length ≤ 256 := Nat.le_trans (allP_length _ m m) (Nat.le_trans (Nat.mul_le_mul hm hm) (by decide))
      generalize impliedF m (farL (edges l) m) = q at *
      generalize compl l m m [] = c at *
      generalize compl (l ++ [((a : Int), (b : Int))]) m m [] = c2 at *
      simp only [encPs] at hpm
      repeat' (first | refine awp_assoc ?_ | ((first | refine awp_seq_reg fun K hK => ?_ | refine awp_seq_draw (by decide +kernel) fun K hK => ?_ | refine awp_reg' fun K hK => ?_ | refine awp_draw' (by decide +kernel) fun K hK => ?_); (simp (disch := omega) only [go_sem, Nat.reduceBEq, reduceCtorEq, Nat.reduceAdd, Nat.reduceMul, Nat.reduceLeDiff, encPs, encP])) | ((first | refine awp_seq_cond _ rfl (fun hc => ?_) (fun hc => ?_) | refine awp_cond _ rfl (fun hc => ?_) (fun hc => ?_)) <;> (first | (cases hc; done) | ((try simp only [] at hc); (try (exfalso; omega))))) | refine awp_seq_block ?_ | refine awp_block ?_ | refine awp_seq_skip ?_ | refine awp_seq_ret ?_ | refine awp_seq_exit ?_ | refine awp_skip ?_ | refine awp_exit ?_ | refine awp_ret ?_ | refine seqK_n ?_ | refine seqK_e ?_ | refine seqK_r ?_ | refine blkK_n ?_ | refine blkK_e ?_ | refine blkK_o rfl ?_ | refine blkK_r ?_ | refine loopK_e ?_ | refine loopK_r ?_ | (first | refine retQ_K (by (simp (disch := omega) only [go_sem]); rfl) ?_ | refine retQ_K' (by (simp (disch := omega) only [go_sem]); rfl) ?_) | (refine hK _ ?_; clear hK K) | ((first | refine callW_pc (pc_awake) ?_ | refine callD_pc (pc_awake) ?_); (simp (disch := omega) only [go_sem, Nat.reduceBEq])) | ((first | refine callW_pc (hpw (by omega)) ?_ | refine callD_pc (hpw (by omega)) ?_); (simp (disch := omega) only [go_sem, Nat.reduceBEq])) | ((first | refine callW_pc (hps) ?_ | refine callD_pc (hps) ?_); (simp (disch := omega) only [go_sem, Nat.reduceBEq])) | ((first | refine callW_pc (hps2) ?_ | refine callD_pc (hps2) ?_); (simp (disch := omega) only [go_sem, Nat.reduceBEq])) | ((first | refine callW_pc (hpm) ?_ | refine callD_pc (hpm) ?_); (simp (disch := omega) only [go_sem, Nat.reduceBEq])) | (refine stepG_split (fun hb => ?_) (fun hb => ?_) <;> (have hb2 := hb; try simp only [decide_eq_true_eq, decide_eq_false_iff_not, Bool.not_eq_true', Bool.not_eq_false'] at hb2) <;> ((first | have hb3 : (_ : Bool) = _ := hb2 | have hb3 := eq_false hb2 | have hb3 := eq_true hb2); (simp (disch := omega) only [go_sem, Nat.reduceBEq, reduceCtorEq, Nat.reduceAdd, Nat.reduceMul, Nat.reduceLeDiff, hb3]); clear hb hb3; (try (exfalso; omega)))) | (exfalso; omega))
      all_goals first | exact fin_bool rfl | skip
      (refine awp_loop' (fun mz st => ∃ (i : _), mz = q.length - i ∧ st.t 5 = .ptr 0 0 ∧ st.t 7 = .int .i64 (c : Nat) ∧ st.t 9 = .int .i64 (c2 : Nat) ∧ st.t 11 = .bool (hasP (q.take i) a b) ∧ st.t 65 = .rsl false 2 (q.map encP) ∧ st.t 66 = .int .i64 q.length ∧ st.t 67 = .int .i64 i ∧ st.H 0 = some (.box 35 [.int .i64 a, .int .i64 b]) ∧ (i ≤ q.length) ∧ (1 ≤ st.nx)) ?_ ?_); rotate_left; (rintro mz st ⟨i, rfl, s5, s7, s9, s11, s65, s66, s67, sH0, sp0, sp1⟩); rotate_left
      · (refine ⟨_, 0, rfl, ?_⟩); (simp (disch := omega) only [go_sem, Nat.reduceBEq, Nat.reduceLeDiff, true_and, and_true, and_self, Int.natCast_zero])
        first | rfl | exact ⟨rfl, by omega⟩
      repeat' (first | refine awp_assoc ?_ | ((first | refine awp_seq_reg fun K hK => ?_ | refine awp_seq_draw (by decide +kernel) fun K hK => ?_ | refine awp_reg' fun K hK => ?_ | refine awp_draw' (by decide +kernel) fun K hK => ?_); (simp (disch := omega) only [go_sem, Nat.reduceBEq, reduceCtorEq, Nat.reduceAdd, Nat.reduceLeDiff, s7, s9, s11, s65, s66, s67, encP])) | ((first | refine awp_seq_cond _ rfl (fun hc => ?_) (fun hc => ?_) | refine awp_cond _ rfl (fun hc => ?_) (fun hc => ?_)) <;> (first | (cases hc; done) | ((try simp only [decide_eq_true_eq, decide_eq_false_iff_not] at hc); (try (exfalso; omega))))) | refine awp_seq_block ?_ | refine awp_block ?_ | refine awp_seq_skip ?_ | refine awp_seq_ret ?_ | refine awp_seq_exit ?_ | refine awp_skip ?_ | refine awp_exit ?_ | refine awp_ret ?_ | refine seqK_n ?_ | refine seqK_e ?_ | refine seqK_r ?_ | refine blkK_n ?_ | refine blkK_e ?_ | refine blkK_o rfl ?_ | refine blkK_r ?_ | refine loopK_e ?_ | refine loopK_r ?_ | (first | refine retQ_K (by (simp (disch := omega) only [go_sem]); rfl) ?_ | refine retQ_K' (by (simp (disch := omega) only [go_sem]); rfl) ?_) | (refine hK _ ?_; clear hK K) | (refine stepG_split (fun hb => ?_) (fun hb => ?_) <;> (have hb2 := hb; try simp only [decide_eq_true_eq, decide_eq_false_iff_not, Bool.not_eq_true', Bool.not_eq_false'] at hb2) <;> ((first | have hb3 : (_ : Bool) = _ := hb2 | have hb3 := eq_false hb2 | have hb3 := eq_true hb2); (simp (disch := omega) only [go_sem, Nat.reduceBEq, Nat.reduceAdd, Nat.reduceLeDiff, hb3, s5, s7, s9, s11, sH0]); clear hb hb3; (try (exfalso; omega)))) | (exfalso; omega))
      · have h1 : hasP (q.take (i + 1)) a b = (decide (q[i].1 = (a : Int)) && decide (q[i].2 = (b : Int))) := by
          unfold hasP at *
          rw [List.take_succ_eq_append_getElem (by omega), List.any_append, ‹(q.take i).any _ = false›]; simp
        (refine Exists.intro _ (And.intro ?_ ⟨i + 1, rfl, ?_⟩)); rotate_left; (simp (disch := omega) only [go_sem, Nat.reduceBEq, Nat.reduceLeDiff, s5, s7, s9, s11, s65, s66, s67, sH0, true_and, and_true, Int.natCast_add, Int.natCast_one, h1]); rotate_left
        · omega
        · first | omega | exact ⟨trivial, by omega, by omega⟩
      · have h1 : hasP (q.take (i + 1)) a b = true := by
          unfold hasP at *
          rw [List.take_succ_eq_append_getElem (by omega), List.any_append, ‹(q.take i).any _ = true›]; rfl
        (refine Exists.intro _ (And.intro ?_ ⟨i + 1, rfl, ?_⟩)); rotate_left; (simp (disch := omega) only [go_sem, Nat.reduceBEq, Nat.reduceLeDiff, s5, s7, s9, s11, s65, s66, s67, sH0, true_and, and_true, Int.natCast_add, Int.natCast_one, h1]); rotate_left
        · omega
        · first | omega | exact ⟨trivial, by omega, by omega⟩
      · have hq : q.take i = q := List.take_of_length_le (by omega)
        refine fin_bool ?_
        rw [hq]
        have hin : hasP q a b = true ↔ ∃ m, Path l (m + 1) a b := by
          rw [← hmem]
          unfold hasP
          rw [List.any_eq_true]
          constructor
          · rintro ⟨p, hp, h⟩
            have h : p.1 = (a : Int) ∧ p.2 = (b : Int) := by simpa using h
            have e : p = ((a : Int), (b : Int)) := Prod.ext h.1 h.2
            exact e ▸ hp
          · intro h; exact ⟨_, h, by simp⟩
        have : hasP q a b = decide ((c2 : Int) = (c : Int)) := by
          rw [Bool.eq_iff_iff, hin, decide_eq_true_iff, ← heq]; omega
        rw [this]; simp
    · have h0 := (not_congr (compl_iff hok)).2 hac
      have hc0 : compl l m m [] = 0 := by omega
      have hc1 : compl (l ++ [((a : Int), (b : Int))]) m m [] = 0 := by omega
      have hf0 : f = 14 := by
        rcases hf with rfl | rfl
        · have := hf2.1 rfl; omega
        · rfl
      have hg00 : g = 14 := by
        rcases hg0 with rfl | rfl
        · have := hg2.1 rfl; omega
        · rfl
      subst hf0; subst hg00
      rw [hc0] at hps
      rw [hc1] at hps2
      skip
      repeat' (first | refine awp_assoc ?_ | ((first | refine awp_seq_reg fun K hK => ?_ | refine awp_seq_draw (by decide +kernel) fun K hK => ?_ | refine awp_reg' fun K hK => ?_ | refine awp_draw' (by decide +kernel) fun K hK => ?_); (simp (disch := omega) only [go_sem, Nat.reduceBEq, reduceCtorEq, Nat.reduceAdd, Nat.reduceMul, Nat.reduceLeDiff, Int.reduceEq, encPs, encP])) | ((first | refine awp_seq_cond _ rfl (fun hc => ?_) (fun hc => ?_) | refine awp_cond _ rfl (fun hc => ?_) (fun hc => ?_)) <;> (first | (cases hc; done) | ((try simp only [] at hc); (try (exfalso; omega))))) | refine awp_seq_block ?_ | refine awp_block ?_ | refine awp_seq_skip ?_ | refine awp_seq_ret ?_ | refine awp_seq_exit ?_ | refine awp_skip ?_ | refine awp_exit ?_ | refine awp_ret ?_ | refine seqK_n ?_ | refine seqK_e ?_ | refine seqK_r ?_ | refine blkK_n ?_ | refine blkK_e ?_ | refine blkK_o rfl ?_ | refine blkK_r ?_ | refine loopK_e ?_ | refine loopK_r ?_ | (first | refine retQ_K (by (simp (disch := omega) only [go_sem]); rfl) ?_ | refine retQ_K' (by (simp (disch := omega) only [go_sem]); rfl) ?_) | (refine hK _ ?_; clear hK K) | ((first | refine callW_pc (pc_awake) ?_ | refine callD_pc (pc_awake) ?_); (simp (disch := omega) only [go_sem, Nat.reduceBEq])) | ((first | refine callW_pc (hpw (by omega)) ?_ | refine callD_pc (hpw (by omega)) ?_); (simp (disch := omega) only [go_sem, Nat.reduceBEq])) | ((first | refine callW_pc (hps) ?_ | refine callD_pc (hps) ?_); (simp (disch := omega) only [go_sem, Nat.reduceBEq])) | ((first | refine callW_pc (hps2) ?_ | refine callD_pc (hps2) ?_); (simp (disch := omega) only [go_sem, Nat.reduceBEq])) | (refine stepG_split (fun hb => ?_) (fun hb => ?_) <;> (have hb2 := hb; try simp only [decide_eq_true_eq, decide_eq_false_iff_not, Bool.not_eq_true', Bool.not_eq_false'] at hb2) <;> ((first | have hb3 : (_ : Bool) = _ := hb2 | have hb3 := eq_false hb2 | have hb3 := eq_true hb2); (simp (disch := omega) only [go_sem, Nat.reduceBEq, reduceCtorEq, Nat.reduceAdd, Nat.reduceMul, Nat.reduceLeDiff, hb3]); clear hb hb3; (try (exfalso; omega)))) | (exfalso; omega))
      all_goals first | exact fin_bool rfl | skip
  · skip
    repeat' (first | refine awp_assoc ?_ | ((first | refine awp_seq_reg fun K hK => ?_ | refine awp_seq_draw (by decide +kernel) fun K hK => ?_ | refine awp_reg' fun K hK => ?_ | refine awp_draw' (by decide +kernel) fun K hK => ?_); (simp (disch := omega) only [go_sem, encPs, encP])) | ((first | refine awp_seq_cond _ rfl (fun hc => ?_) (fun hc => ?_) | refine awp_cond _ rfl (fun hc => ?_) (fun hc => ?_)) <;> (first | (cases hc; done) | ((try simp only [decide_eq_true_eq, decide_eq_false_iff_not, Classical.not_not] at hc); (try (exfalso; omega))))) | refine awp_seq_block ?_ | refine awp_block ?_ | refine awp_seq_skip ?_ | refine awp_seq_ret ?_ | refine awp_seq_exit ?_ | refine awp_skip ?_ | refine awp_exit ?_ | refine awp_ret ?_ | refine seqK_n ?_ | refine seqK_e ?_ | refine seqK_r ?_ | refine blkK_n ?_ | refine blkK_e ?_ | refine blkK_o rfl ?_ | refine blkK_r ?_ | refine loopK_e ?_ | refine loopK_r ?_ | (first | refine retQ_K (by (simp (disch := omega) only [go_sem]); rfl) ?_ | refine retQ_K' (by (simp (disch := omega) only [go_sem]); rfl) ?_) | (refine hK _ ?_; clear hK K) | ((first | refine callW_pc (pc_awake) ?_ | refine callD_pc (pc_awake) ?_); (simp (disch := omega) only [go_sem, Nat.reduceBEq])) | ((first | refine callW_pc (hpw (by omega)) ?_ | refine callD_pc (hpw (by omega)) ?_); (simp (disch := omega) only [go_sem, Nat.reduceBEq])) | (refine stepG_split (fun hb => ?_) (fun hb => ?_) <;> (have hb2 := hb; try simp only [decide_eq_true_eq, decide_eq_false_iff_not, Bool.not_eq_true', Bool.not_eq_false'] at hb2) <;> ((first | have hb3 : (_ : Bool) = _ := hb2 | have hb3 := eq_false hb2 | have hb3 := eq_true hb2); (simp (disch := omega) only [go_sem, Nat.reduceBEq, reduceCtorEq, Nat.reduceAdd, Nat.reduceMul, Nat.reduceLeDiff, hb3]); clear hb hb3; (try (exfalso; omega)))) | (exfalso; omega))
    all_goals first | exact fin_bool rfl | skip
end Go.Proofs.Ytjibdljdkgedcaa
/-
  The given statement of ToposortAddPair: for every input the law returns true and leaves the input as it was. No condition.
-/
namespace Go.Proofs.Ytjibdljdkgedcaa
open Go.ChangeShapes Go.WideShapes Go.ChangeAt Go.RowKit Abs
set_option maxRecDepth 100000 in
theorem toposortAddPair_lifted (os : Os) (started : os.Started) (H : Type) (enc : TypeId × Value → H) :
    ReturnsInHanded {} Try.checked os 8 .any (Rows.toposortAddPairSpec.pre6 enc Try.prog Try.f8 Rows.toposortAddPairRow.domain false) (Rows.toposortAddPairSpec.post enc Try.prog Try.f8 false true false false) := by
  refine returnsInHanded_of_change (C := Try.checked) Glue.ownK started (by kernel_rfl) Try.func8
    (ChangeSpec.witness6 (enc := enc) (C := Try.checked) false ⟨#[], #[.int .i64 0, .slice none 0 0, .agg #[.int .i64 0, .int .i64 0]], []⟩ 8 (by kernel_rfl) (by kernel_rfl) (by kernel_rfl) (by kernel_rfl)) ?_
  intro W base args ds gs before hval0 hW _ _
  have hval : ∀ (j : Nat) t v, Try.f8.params[j]? = some t → args[j]? = some v → Value.okWide Try.prog W .any base t v := hval0
  have hW' := hW
  obtain ⟨p, q, hA0, hV, rfl, _, _⟩ := hW
  have hA : DataW.TrodAll enc Try.prog W 0 (fun _ => true) true Try.f8.params.toList args.toList ds p := hA0
  rw [Try.params8] at hA hval
  obtain ⟨v0, v1, v2, d0, d1, d2, p0, p1, p2, rfl, rfl, rfl, h0, h1, h2⟩ := trodAll_three hA
  obtain ⟨rfl, rfl⟩ := trodVars_none hV
  clear hA0 hval0
  simp only [List.append_nil] at hW'
  have hlt : ∀ x ∈ p0 ++ p1 ++ p2, x.block < W.heap.size := fun x hx => by simpa using hW'.lt x hx
  obtain ⟨n, hn, r0⟩ := Glue.rd_int (hval 0 3 v0 rfl rfl) h0
  obtain ⟨l, hl, r1⟩ := Glue.rd_pairs (hval 1 22 v1 rfl rfl) h1
  obtain ⟨p, _hp, r2⟩ := Glue.rd_pair (hval 2 35 v2 rfl rfl) h2
  refine (law_calls (pc_LawAddPair n l p hl) (v := .bool true) (fun s u h => by simpa only [rel] using h) (globOK_any W) (relAll_cons r0 (relAll_cons r1 (relAll_cons r2 relAll_nil)))).mono fun e W' ⟨he, hb⟩ => ?_
  subst he
  have g0 : DataW.Trod enc Try.prog W' 0 (fun b => decide (b < W.heap.size)) true 3 v0 d0 p0 := Below.trod Glue.laidOutK (by kernel_rfl) (of_decide_eq_true (by kernel_rfl)) h0 hb (fun x hx => hlt x (List.mem_append_left _ (List.mem_append_left _ hx)))
  have g1 : DataW.Trod enc Try.prog W' 0 (fun b => decide (b < W.heap.size)) true 22 v1 d1 p1 := Below.trod Glue.laidOutK (by kernel_rfl) (of_decide_eq_true (by kernel_rfl)) h1 hb (fun x hx => hlt x (List.mem_append_left _ (List.mem_append_right _ hx)))
  have g2 : DataW.Trod enc Try.prog W' 0 (fun b => decide (b < W.heap.size)) true 35 v2 d2 p2 := Below.trod Glue.laidOutK (by kernel_rfl) (of_decide_eq_true (by kernel_rfl)) h2 hb (fun x hx => hlt x (List.mem_append_right _ hx))
  exact ⟨_, rfl, ⟨_, _, _, [], _, [], hW', trodAll_mk1 (shut_bool Try.underlying4 _), trodAll_mk3 g0 g1 g2, rfl, hb.frame _, fun h => by cases h⟩⟩
theorem toposortAddPair_holds : Rows.ToposortAddPairSaid :=
  OpenClaim.holds_of_wide 8 Try.f8 rfl rfl rfl rfl rfl rfl rfl ⟨rfl, rfl, rfl, rfl, rfl⟩ rfl rfl rfl rfl rfl (by kernel_rfl) Try.func8 (by kernel_rfl)
    (of_decide_eq_true (by kernel_rfl)) (by unfold Func.isWrapper; rw [if_neg (by decide +kernel)]; exact ⟨rfl, rfl⟩)
    (fun os started H enc _ => toposortAddPair_lifted os started H enc)
end Go.Proofs.Ytjibdljdkgedcaa
