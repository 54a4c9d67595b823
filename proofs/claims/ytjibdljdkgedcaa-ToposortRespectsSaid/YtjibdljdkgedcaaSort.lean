/-
  The walk of Sort. No condition but lengths.
-/
import Derived.Test.YtjibdljdkgedcaaAhead
set_option maxRecDepth 100000
set_option maxHeartbeats 8000000
set_option linter.unusedSimpArgs false
set_option linter.unusedVariables false
namespace Go.Proofs.Ytjibdljdkgedcaa
open Abs Facts Topo
attribute [local irreducible] awp
namespace Topo
def freeB (g : List Nat) (n done p : Nat) : Bool := !done.testBit p && subU (aheadN g p n) done
def sortF (g : List Nat) (n : Nat) : Nat → List Nat → Nat → Option (List Nat)
  | 0, out, _ => some out
  | k + 1, out, done => match (List.range n).find? (freeB g n done) with
    | none => none
    | some p => sortF g n k (out ++ [p]) (orU done (2 ^ p))
def sortR (n : Int) (l : List Pr) : Int × List Nat :=
  if wrong n l ≠ 0 then (wrong n l, []) else
  match sortF (graphL n l) n.toNat n.toNat [] 0 with
  | none => (14, [])
  | some out => (0, out)
theorem find_none {f : Nat → Bool} {n : Nat} (h : ∀ q, q < n → f q = false) : (List.range n).find? f = none := by
  rw [List.find?_eq_none]
  intro x hx
  rw [h x (List.mem_range.1 hx)]; simp
theorem find_some {f : Nat → Bool} {n p : Nat} (hp : p < n) (hf : f p = true) (h : ∀ q, q < p → f q = false) : (List.range n).find? f = some p := by
  rw [List.find?_range_eq_some]
  exact ⟨hf, by simpa using hp, fun j hj => by rw [h j hj]; rfl⟩
end Topo
namespace Abs
def encN (l : List Nat) : D := .rsl false 1 (l.map fun n => .int .i64 (n : Nat))
theorem pure_encN (l : List Nat) : pureD (encN l) = true := by simp only [encN, pureD]; exact pureL_map (fun _ => rfl) l
theorem sealD_boxAgg {P : Program} {H : HM} {id e : Nat} {cs : List D} (k : Nat) (hH : H id = some (.box e cs)) (ha : isAggT P e = true) (hc : pureD.pureL cs = true) : sealD P H (k + 2) (.ptr id 0) = some (.rptr (.agg cs)) := by
  unfold sealD
  simp only [pureD, Bool.false_eq_true, if_false, hH, ha, true_or, and_self, if_true, optL_pure k cs hc, Option.map_some]
end Abs
theorem pc_free (n : Nat) (hn : n ≤ 16) (g : List Nat) (hg : g.length = 16) (done p : Nat) (hp : p < 64) : PC Try.prog 25 [.int .i64 p, .rptr (.int .u64 (done : Nat)), .rptr (.agg (cellsG n g))] (.bool (freeB g n done p)) := by
  refine PC_intro 1 (by simp only [pureD.pureL, pureD, pure_cellsG, Bool.and_self]) rfl (AC_intro [] Try.func25 rfl (by decide +kernel) mixed (by decide +kernel) (by simp [Try.ntmps25]) ?_)
  show awp _ _ (Code.seq _ _) _ _
  repeat' (first | refine awp_assoc ?_ | ((first | refine awp_seq_reg fun K hK => ?_ | refine awp_seq_draw (by decide +kernel) fun K hK => ?_ | refine awp_reg' fun K hK => ?_ | refine awp_draw' (by decide +kernel) fun K hK => ?_ | refine callW_pc (pc_ahead n hn g hg p hp) ?_ | refine callD_pc (pc_ahead n hn g hg p hp) ?_); (simp (disch := omega) only [go_sem, Nat.reduceBEq, Nat.reduceBeqDiff, Nat.reduceEqDiff, ↓reduceIte, reduceCtorEq, Nat.reduceAdd, Nat.reduceMul, Nat.reduceLeDiff, Nat.reduceLT, Int.reduceLT, Int.reduceLE, Int.reduceEq, cellsG_length, hg, shlU, bits_or, shrU, bits_and1, bit_one, bit_zero, bits_andNot, sub_zero'])) | ((first | refine awp_seq_cond _ rfl (fun hc => ?_) (fun hc => ?_) | refine awp_cond _ rfl (fun hc => ?_) (fun hc => ?_)) <;> (first | (cases hc; done) | ((try simp only [decide_eq_true_eq, decide_eq_false_iff_not, Classical.not_not, beq_iff_eq, beq_eq_false_iff_ne, bne_iff_ne, ne_eq, Bool.not_eq_true', Bool.not_eq_false', Bool.and_eq_true, Bool.or_eq_true, Bool.and_eq_false_imp, Bool.or_eq_false_iff, Bool.not_eq_true, Bool.not_eq_false] at hc); (try (exfalso; omega))))) | refine awp_seq_block ?_ | refine awp_block ?_ | refine awp_seq_skip ?_ | refine awp_seq_ret ?_ | refine awp_seq_exit ?_ | refine awp_skip ?_ | refine awp_exit ?_ | refine awp_ret ?_ | refine seqK_n ?_ | refine seqK_e ?_ | refine seqK_r ?_ | refine blkK_n ?_ | refine blkK_e ?_ | refine blkK_o rfl ?_ | refine blkK_r ?_ | refine loopK_e ?_ | refine loopK_r ?_ | refine retQ_E (by (simp (disch := omega) only [go_sem, Nat.reduceBEq, Nat.reduceBeqDiff, Nat.reduceEqDiff, ↓reduceIte, reduceCtorEq, Nat.reduceAdd, Nat.reduceMul, Nat.reduceLeDiff, Nat.reduceLT, Int.reduceLT, Int.reduceLE, Int.reduceEq, cellsG_length, hg, shlU, bits_or, shrU, bits_and1, bit_one, bit_zero, bits_andNot, sub_zero']); rfl) rfl ?_ | (refine hK _ ?_; clear hK K) | (refine stepG_split (fun hb => ?_) (fun hb => ?_) <;> (have hb2 := hb; try simp only [decide_eq_true_eq, decide_eq_false_iff_not, Classical.not_not, beq_iff_eq, beq_eq_false_iff_ne, bne_iff_ne, ne_eq, Bool.not_eq_true', Bool.not_eq_false', Bool.and_eq_true, Bool.or_eq_true, Bool.and_eq_false_imp, Bool.or_eq_false_iff, Bool.not_eq_true, Bool.not_eq_false] at hb2) <;> ((first | have hb3 : (_ : Bool) = _ := hb2 | have hb3 := eq_false hb2 | have hb3 := eq_true hb2); (simp (disch := omega) only [go_sem, Nat.reduceBEq, Nat.reduceBeqDiff, Nat.reduceEqDiff, ↓reduceIte, reduceCtorEq, Nat.reduceAdd, Nat.reduceMul, Nat.reduceLeDiff, Nat.reduceLT, Int.reduceLT, Int.reduceLE, Int.reduceEq, hb, hb3, cellsG_length, hg, shlU, bits_or, shrU, bits_and1, bit_one, bit_zero, bits_andNot, sub_zero']); clear hb hb3; (try (exfalso; omega)))) | (exfalso; omega))
  · refine fin_bool ?_
    simp only [freeB]
    rw [hb2]; rfl
  · refine fin_bool ?_
    simp only [freeB]
    rw [hb2]; rfl
theorem rc_free (n : Nat) (hn : n ≤ 16) (g : List Nat) (hg : g.length = 16) (done p : Nat) (hp : p < 64) {H : HM} {nx : Nat} (h2 : H 2 = some (.box 48 [.int .u64 (done : Nat)])) (h0 : H 0 = some (.box 51 (cellsG n g))) :
    RC Try.prog 25 [.int .i64 p, .ptr 2 0, .ptr 0 0] H nx (.bool (freeB g n done p)) := by
  refine PC.borrow (pc_free n hn g hg done p hp) rfl 2 ?_
  refine optL_cons (sealD_pure _ rfl) (optL_cons ?_ (optL_cons ?_ optL_nil))
  · exact sealD_box 1 h2 isAggT48 (sealD_pure _ rfl)
  · exact sealD_boxAgg 0 h0 isAggT51 (pure_cellsG _ _)
theorem wrong_nat {n : Int} {l : List Pr} (h : wrong n l = 0) : 0 ≤ n ∧ n ≤ 16 := by
  unfold wrong at h
  split at h
  · cases h
  · omega
def encR (r : Int × List Nat) : D := .tup [encN r.2, .int .i64 r.1]
theorem pc_Sort (n : Int) (l : List Pr) (hl : l.length ≤ maxLen) : PC Try.prog 11 [.int .i64 n, encPs l] (.tup [encN (sortR n l).2, .int .i64 (sortR n l).1]) := by
  refine PC_intro 3 (by simp only [pureD.pureL, pure_encPs, pureD, Bool.and_self]) (by simp only [pureD, pureD.pureL, pure_encN, Bool.and_self]) (AC_intro [8] Try.func11 rfl (by decide +kernel) mixed (by decide +kernel) (by simp [Try.ntmps11]) ?_)
  show awp _ _ (Code.seq _ _) _ _
  have hg : (graphL n l).length = 16 := graphL_length n l
  have hz := zeros_length
  by_cases hw : wrong n l = 0
  · obtain ⟨h0, h16⟩ := wrong_nat hw
    obtain ⟨m, rfl⟩ : ∃ m : Nat, n = m := ⟨n.toNat, by omega⟩
    have hR : sortR m l = match sortF (graphL m l) m m [] 0 with | none => (14, []) | some out => (0, out) := by
      unfold sortR
      rw [if_neg (by simp [hw])]; simp only [Int.toNat_natCast]
    have hpc := pc_made m l hl
    rw [hw] at hpc
    rw [hR]
    generalize graphL (m : Int) l = g at *
    clear hR hw
    repeat' (first | refine awp_assoc ?_ | ((first | refine awp_seq_reg fun K hK => ?_ | refine awp_seq_draw (by decide +kernel) fun K hK => ?_ | refine awp_reg' fun K hK => ?_ | refine awp_draw' (by decide +kernel) fun K hK => ?_ | refine callW_pc (hpc) ?_ | refine callD_pc (hpc) ?_); (simp (disch := omega) only [go_sem, Nat.reduceBEq, Nat.reduceBeqDiff, Nat.reduceEqDiff, ↓reduceIte, reduceCtorEq, Nat.reduceAdd, Nat.reduceMul, Nat.reduceLeDiff, Nat.reduceLT, Int.reduceLT, Int.reduceLE, Int.reduceEq, encPs, cellsG_take, cellsG_splice, cellsG_getS])) | ((first | refine awp_seq_cond _ rfl (fun hc => ?_) (fun hc => ?_) | refine awp_cond _ rfl (fun hc => ?_) (fun hc => ?_)) <;> (first | (cases hc; done) | ((try simp only [decide_eq_true_eq, decide_eq_false_iff_not, Classical.not_not, beq_iff_eq, beq_eq_false_iff_ne, bne_iff_ne, ne_eq, Bool.not_eq_true', Bool.not_eq_false', Bool.and_eq_true, Bool.or_eq_true, Bool.and_eq_false_imp, Bool.or_eq_false_iff, Bool.not_eq_true, Bool.not_eq_false] at hc); (try (exfalso; omega))))) | refine awp_seq_block ?_ | refine awp_block ?_ | refine awp_seq_skip ?_ | refine awp_seq_ret ?_ | refine awp_seq_exit ?_ | refine awp_skip ?_ | refine awp_exit ?_ | refine awp_ret ?_ | refine seqK_n ?_ | refine seqK_e ?_ | refine seqK_r ?_ | refine blkK_n ?_ | refine blkK_e ?_ | refine blkK_o rfl ?_ | refine blkK_r ?_ | refine loopK_e ?_ | refine loopK_r ?_ | refine retQ_E (by (simp (disch := omega) only [go_sem, Nat.reduceBEq, Nat.reduceBeqDiff, Nat.reduceEqDiff, ↓reduceIte, reduceCtorEq, Nat.reduceAdd, Nat.reduceMul, Nat.reduceLeDiff, Nat.reduceLT, Int.reduceLT, Int.reduceLE, Int.reduceEq, encPs, cellsG_take, cellsG_splice, cellsG_getS]); rfl) rfl ?_ | (refine hK _ ?_; clear hK K) | (refine stepG_split (fun hb => ?_) (fun hb => ?_) <;> (have hb2 := hb; try simp only [decide_eq_true_eq, decide_eq_false_iff_not, Classical.not_not, beq_iff_eq, beq_eq_false_iff_ne, bne_iff_ne, ne_eq, Bool.not_eq_true', Bool.not_eq_false', Bool.and_eq_true, Bool.or_eq_true, Bool.and_eq_false_imp, Bool.or_eq_false_iff, Bool.not_eq_true, Bool.not_eq_false] at hb2) <;> ((first | have hb3 : (_ : Bool) = _ := hb2 | have hb3 := eq_false hb2 | have hb3 := eq_true hb2); (simp (disch := omega) only [go_sem, Nat.reduceBEq, Nat.reduceBeqDiff, Nat.reduceEqDiff, ↓reduceIte, reduceCtorEq, Nat.reduceAdd, Nat.reduceMul, Nat.reduceLeDiff, Nat.reduceLT, Int.reduceLT, Int.reduceLE, Int.reduceEq, hb, hb3, encPs, cellsG_take, cellsG_splice, cellsG_getS]); clear hb hb3; (try (exfalso; omega)))) | (exfalso; omega))
    (refine awp_loop' (fun mz st => ∃ (out : List Nat) (done : Nat), mz = m - out.length ∧ st.t 0 = .int .i64 m ∧ st.t 6 = .ptr 0 0 ∧ st.t 8 = .osl 1 out.length ∧ st.t 9 = .ptr 2 0 ∧ st.t 10 = .fn 25 [.ptr 2 0, .ptr 0 0] ∧ st.H 0 = some (.box 51 (cellsG m g)) ∧ st.H 1 = some (.row 3 out.length (out.map fun x => .int .i64 (x : Nat))) ∧ st.H 2 = some (.box 48 [.int .u64 (done : Nat)]) ∧ (out.length ≤ m) ∧ (sortF g m m [] 0 = sortF g m (m - out.length) out done) ∧ (3 ≤ st.nx)) ?_ ?_); rotate_left; (rintro mz st ⟨out, done, rfl, s0, s6, s8, s9, s10, sH0, sH1, sH2, sp0, sp1, sp2⟩); rotate_left
    · (refine ⟨_, [], 0, rfl, ?_⟩); (simp (disch := omega) only [go_sem, Nat.reduceBEq, Nat.reduceBeqDiff, Nat.reduceEqDiff, ↓reduceIte, reduceCtorEq, Nat.reduceAdd, Nat.reduceMul, Nat.reduceLeDiff, Nat.reduceLT, Int.reduceLT, Int.reduceLE, Int.reduceEq, true_and, and_true, and_self, Int.natCast_add, Int.natCast_one, Int.natCast_zero, List.flatMap_nil, List.map_nil, List.append_nil, List.nil_append])
      simp
    repeat' (first | refine awp_assoc ?_ | ((first | refine awp_seq_reg fun K hK => ?_ | refine awp_seq_draw (by decide +kernel) fun K hK => ?_ | refine awp_reg' fun K hK => ?_ | refine awp_draw' (by decide +kernel) fun K hK => ?_); (simp (disch := omega) only [go_sem, Nat.reduceBEq, Nat.reduceBeqDiff, Nat.reduceEqDiff, ↓reduceIte, reduceCtorEq, Nat.reduceAdd, Nat.reduceMul, Nat.reduceLeDiff, Nat.reduceLT, Int.reduceLT, Int.reduceLE, Int.reduceEq, s0, s6, s8, s9, s10, sH0, sH1, sH2, cellsG_take, cellsG_splice, cellsG_getS])) | ((first | refine awp_seq_cond _ rfl (fun hc => ?_) (fun hc => ?_) | refine awp_cond _ rfl (fun hc => ?_) (fun hc => ?_)) <;> (first | (cases hc; done) | ((try simp only [decide_eq_true_eq, decide_eq_false_iff_not, Classical.not_not, beq_iff_eq, beq_eq_false_iff_ne, bne_iff_ne, ne_eq, Bool.not_eq_true', Bool.not_eq_false', Bool.and_eq_true, Bool.or_eq_true, Bool.and_eq_false_imp, Bool.or_eq_false_iff, Bool.not_eq_true, Bool.not_eq_false] at hc); (try (exfalso; omega))))) | refine awp_seq_block ?_ | refine awp_block ?_ | refine awp_seq_skip ?_ | refine awp_seq_ret ?_ | refine awp_seq_exit ?_ | refine awp_skip ?_ | refine awp_exit ?_ | refine awp_ret ?_ | refine seqK_n ?_ | refine seqK_e ?_ | refine seqK_r ?_ | refine blkK_n ?_ | refine blkK_e ?_ | refine blkK_o rfl ?_ | refine blkK_r ?_ | refine loopK_e ?_ | refine loopK_r ?_ | refine retQ_E (by (simp (disch := omega) only [go_sem, Nat.reduceBEq, Nat.reduceBeqDiff, Nat.reduceEqDiff, ↓reduceIte, reduceCtorEq, Nat.reduceAdd, Nat.reduceMul, Nat.reduceLeDiff, Nat.reduceLT, Int.reduceLT, Int.reduceLE, Int.reduceEq, s0, s6, s8, s9, s10, sH0, sH1, sH2, cellsG_take, cellsG_splice, cellsG_getS]); rfl) rfl ?_ | (refine hK _ ?_; clear hK K) | (refine stepG_split (fun hb => ?_) (fun hb => ?_) <;> (have hb2 := hb; try simp only [decide_eq_true_eq, decide_eq_false_iff_not, Classical.not_not, beq_iff_eq, beq_eq_false_iff_ne, bne_iff_ne, ne_eq, Bool.not_eq_true', Bool.not_eq_false', Bool.and_eq_true, Bool.or_eq_true, Bool.and_eq_false_imp, Bool.or_eq_false_iff, Bool.not_eq_true, Bool.not_eq_false] at hb2) <;> ((first | have hb3 : (_ : Bool) = _ := hb2 | have hb3 := eq_false hb2 | have hb3 := eq_true hb2); (simp (disch := omega) only [go_sem, Nat.reduceBEq, Nat.reduceBeqDiff, Nat.reduceEqDiff, ↓reduceIte, reduceCtorEq, Nat.reduceAdd, Nat.reduceMul, Nat.reduceLeDiff, Nat.reduceLT, Int.reduceLT, Int.reduceLE, Int.reduceEq, hb, hb3, s0, s6, s8, s9, s10, sH0, sH1, sH2, cellsG_take, cellsG_splice, cellsG_getS]); clear hb hb3; (try (exfalso; omega)))) | (exfalso; omega))
    · (refine awp_loop' (fun mz st => ∃ (q : _), mz = m - q ∧ st.t 0 = .int .i64 m ∧ st.t 6 = .ptr 0 0 ∧ st.t 8 = .osl 1 out.length ∧ st.t 9 = .ptr 2 0 ∧ st.t 10 = .fn 25 [.ptr 2 0, .ptr 0 0] ∧ st.t 11 = .int .i64 q ∧ st.H 0 = some (.box 51 (cellsG m g)) ∧ st.H 1 = some (.row 3 out.length (out.map fun x => .int .i64 (x : Nat))) ∧ st.H 2 = some (.box 48 [.int .u64 (done : Nat)]) ∧ (q ≤ m) ∧ (∀ r, r < q → freeB g m done r = false) ∧ (3 ≤ st.nx)) ?_ ?_); rotate_left; (rintro mz st ⟨q, rfl, p0, p6, p8, p9, p10, p11, pH0, pH1, pH2, pp0, pp1, pp2⟩); rotate_left
      · (refine ⟨_, 0, rfl, ?_⟩); (simp (disch := omega) only [go_sem, Nat.reduceBEq, Nat.reduceBeqDiff, Nat.reduceEqDiff, ↓reduceIte, reduceCtorEq, Nat.reduceAdd, Nat.reduceMul, Nat.reduceLeDiff, Nat.reduceLT, Int.reduceLT, Int.reduceLE, Int.reduceEq, s0, s6, s8, s9, s10, sH0, sH1, sH2, true_and, and_true, and_self, Int.natCast_add, Int.natCast_one, Int.natCast_zero, List.flatMap_nil, List.map_nil, List.append_nil, List.nil_append])
        exact ⟨fun r hr => by omega, by assumption⟩
      have hfr : ∀ {H : HM} {nx : Nat}, q < m → H 2 = some (.box 48 [.int .u64 (done : Nat)]) → H 0 = some (.box 51 (cellsG m g)) → RC Try.prog 25 [.int .i64 q, .ptr 2 0, .ptr 0 0] H nx (.bool (freeB g m done q)) := fun hq h2 h0 => rc_free m (by omega) g hg done q (by omega) h2 h0
      repeat' (first | refine awp_assoc ?_ | ((first | refine awp_seq_reg fun K hK => ?_ | refine awp_seq_draw (by decide +kernel) fun K hK => ?_ | refine awp_reg' fun K hK => ?_ | refine awp_draw' (by decide +kernel) fun K hK => ?_ | refine callW_rc (hfr (by omega) pH2 pH0) ?_ | refine callD_rc (hfr (by omega) pH2 pH0) rfl ?_); (simp (disch := omega) only [go_sem, Nat.reduceBEq, Nat.reduceBeqDiff, Nat.reduceEqDiff, ↓reduceIte, reduceCtorEq, Nat.reduceAdd, Nat.reduceMul, Nat.reduceLeDiff, Nat.reduceLT, Int.reduceLT, Int.reduceLE, Int.reduceEq, p0, p6, p8, p9, p10, p11, pH0, pH1, pH2, cellsG_take, cellsG_splice, cellsG_getS, shlU, bits_or])) | ((first | refine awp_seq_cond _ rfl (fun hc => ?_) (fun hc => ?_) | refine awp_cond _ rfl (fun hc => ?_) (fun hc => ?_)) <;> (first | (cases hc; done) | ((try simp only [decide_eq_true_eq, decide_eq_false_iff_not, Classical.not_not, beq_iff_eq, beq_eq_false_iff_ne, bne_iff_ne, ne_eq, Bool.not_eq_true', Bool.not_eq_false', Bool.and_eq_true, Bool.or_eq_true, Bool.and_eq_false_imp, Bool.or_eq_false_iff, Bool.not_eq_true, Bool.not_eq_false] at hc); (try (exfalso; omega))))) | refine awp_seq_block ?_ | refine awp_block ?_ | refine awp_seq_skip ?_ | refine awp_seq_ret ?_ | refine awp_seq_exit ?_ | refine awp_skip ?_ | refine awp_exit ?_ | refine awp_ret ?_ | refine seqK_n ?_ | refine seqK_e ?_ | refine seqK_r ?_ | refine blkK_n ?_ | refine blkK_e ?_ | refine blkK_o rfl ?_ | refine blkK_r ?_ | refine loopK_e ?_ | refine loopK_r ?_ | refine retQ_E (by (simp (disch := omega) only [go_sem, Nat.reduceBEq, Nat.reduceBeqDiff, Nat.reduceEqDiff, ↓reduceIte, reduceCtorEq, Nat.reduceAdd, Nat.reduceMul, Nat.reduceLeDiff, Nat.reduceLT, Int.reduceLT, Int.reduceLE, Int.reduceEq, p0, p6, p8, p9, p10, p11, pH0, pH1, pH2, cellsG_take, cellsG_splice, cellsG_getS, shlU, bits_or]); rfl) rfl ?_ | (refine hK _ ?_; clear hK K) | (refine stepG_split (fun hb => ?_) (fun hb => ?_) <;> (have hb2 := hb; try simp only [decide_eq_true_eq, decide_eq_false_iff_not, Classical.not_not, beq_iff_eq, beq_eq_false_iff_ne, bne_iff_ne, ne_eq, Bool.not_eq_true', Bool.not_eq_false', Bool.and_eq_true, Bool.or_eq_true, Bool.and_eq_false_imp, Bool.or_eq_false_iff, Bool.not_eq_true, Bool.not_eq_false] at hb2) <;> ((first | have hb3 : (_ : Bool) = _ := hb2 | have hb3 := eq_false hb2 | have hb3 := eq_true hb2); (simp (disch := omega) only [go_sem, Nat.reduceBEq, Nat.reduceBeqDiff, Nat.reduceEqDiff, ↓reduceIte, reduceCtorEq, Nat.reduceAdd, Nat.reduceMul, Nat.reduceLeDiff, Nat.reduceLT, Int.reduceLT, Int.reduceLE, Int.reduceEq, hb, hb3, p0, p6, p8, p9, p10, p11, pH0, pH1, pH2, cellsG_take, cellsG_splice, cellsG_getS, shlU, bits_or]); clear hb hb3; (try (exfalso; omega)))) | (exfalso; omega))
      · (refine Exists.intro _ (And.intro ?_ ⟨q + 1, rfl, ?_⟩)); rotate_left; (simp (disch := omega) only [go_sem, Nat.reduceBEq, Nat.reduceBeqDiff, Nat.reduceEqDiff, ↓reduceIte, reduceCtorEq, Nat.reduceAdd, Nat.reduceMul, Nat.reduceLeDiff, Nat.reduceLT, Int.reduceLT, Int.reduceLE, Int.reduceEq, p0, p6, p8, p9, p10, p11, pH0, pH1, pH2, true_and, and_true, and_self, Int.natCast_add, Int.natCast_one, Int.natCast_zero, List.flatMap_append, List.flatMap_cons, List.flatMap_nil, List.map_append, List.map_cons, List.map_nil, List.append_nil, List.cons_append, List.nil_append]); rotate_left
        · omega
        · refine ⟨by omega, fun r hr => ?_, by assumption⟩
          by_cases hrq : r = q
          · subst hrq; assumption
          · exact pp1 r (by omega)
      · have hfind := find_some (f := freeB g m done) (p := q) (n := m) (by omega) (by assumption) pp1
        have hk : m - out.length = (m - (out.length + 1)) + 1 := by omega
        (refine Exists.intro _ (And.intro ?_ ⟨out ++ [q], orU done (2 ^ q), rfl, ?_⟩)); rotate_left; (simp (disch := omega) only [go_sem, Nat.reduceBEq, Nat.reduceBeqDiff, Nat.reduceEqDiff, ↓reduceIte, reduceCtorEq, Nat.reduceAdd, Nat.reduceMul, Nat.reduceLeDiff, Nat.reduceLT, Int.reduceLT, Int.reduceLE, Int.reduceEq, p0, p6, p8, p9, p10, p11, pH0, pH1, pH2, true_and, and_true, and_self, Int.natCast_add, Int.natCast_one, Int.natCast_zero, List.flatMap_append, List.flatMap_cons, List.flatMap_nil, List.map_append, List.map_cons, List.map_nil, List.append_nil, List.cons_append, List.nil_append]); rotate_left
        · simp; omega
        · rw [hk] at sp1
          simp only [sortF, hfind] at sp1
          exact ⟨by omega, sp1, by omega⟩
      · have hq : q = m := by omega
        have hk : m - out.length = (m - (out.length + 1)) + 1 := by omega
        rw [hk] at sp1
        simp only [sortF, find_none (f := freeB g m done) (n := m) (fun r hr => pp1 r (by omega))] at sp1
        rw [sp1]
        exact fin_pure rfl (Le.tup ⟨Le.nil 1, Le.refl _, trivial⟩)
    · have hk : m - out.length = 0 := by omega
      rw [hk] at sp1
      simp only [sortF] at sp1
      rw [sp1]
      refine fin_of (sealD_tup 2 rfl (optL_cons ?_ (optL_cons (sealD_pure _ rfl) optL_nil)))
      exact sealD_row 0 sH1 isAggT3 sizeT3 (by simp) (pureL_map (fun _ => rfl) _)
  · have hR : sortR n l = (wrong n l, []) := by unfold sortR; rw [if_pos hw]
    skip
    repeat' (first | refine awp_assoc ?_ | ((first | refine awp_seq_reg fun K hK => ?_ | refine awp_seq_draw (by decide +kernel) fun K hK => ?_ | refine awp_reg' fun K hK => ?_ | refine awp_draw' (by decide +kernel) fun K hK => ?_ | refine callW_pc (pc_made n l hl) ?_ | refine callD_pc (pc_made n l hl) ?_); (simp (disch := omega) only [go_sem, Nat.reduceBEq, Nat.reduceBeqDiff, Nat.reduceEqDiff, ↓reduceIte, reduceCtorEq, Nat.reduceAdd, Nat.reduceMul, Nat.reduceLeDiff, Nat.reduceLT, Int.reduceLT, Int.reduceLE, Int.reduceEq, encPs, cellsG_take, cellsG_splice, cellsG_getS])) | ((first | refine awp_seq_cond _ rfl (fun hc => ?_) (fun hc => ?_) | refine awp_cond _ rfl (fun hc => ?_) (fun hc => ?_)) <;> (first | (cases hc; done) | ((try simp only [decide_eq_true_eq, decide_eq_false_iff_not, Classical.not_not, beq_iff_eq, beq_eq_false_iff_ne, bne_iff_ne, ne_eq, Bool.not_eq_true', Bool.not_eq_false', Bool.and_eq_true, Bool.or_eq_true, Bool.and_eq_false_imp, Bool.or_eq_false_iff, Bool.not_eq_true, Bool.not_eq_false] at hc); (try (exfalso; omega))))) | refine awp_seq_block ?_ | refine awp_block ?_ | refine awp_seq_skip ?_ | refine awp_seq_ret ?_ | refine awp_seq_exit ?_ | refine awp_skip ?_ | refine awp_exit ?_ | refine awp_ret ?_ | refine seqK_n ?_ | refine seqK_e ?_ | refine seqK_r ?_ | refine blkK_n ?_ | refine blkK_e ?_ | refine blkK_o rfl ?_ | refine blkK_r ?_ | refine loopK_e ?_ | refine loopK_r ?_ | refine retQ_E (by (simp (disch := omega) only [go_sem, Nat.reduceBEq, Nat.reduceBeqDiff, Nat.reduceEqDiff, ↓reduceIte, reduceCtorEq, Nat.reduceAdd, Nat.reduceMul, Nat.reduceLeDiff, Nat.reduceLT, Int.reduceLT, Int.reduceLE, Int.reduceEq, encPs, cellsG_take, cellsG_splice, cellsG_getS]); rfl) rfl ?_ | (refine hK _ ?_; clear hK K) | (refine stepG_split (fun hb => ?_) (fun hb => ?_) <;> (have hb2 := hb; try simp only [decide_eq_true_eq, decide_eq_false_iff_not, Classical.not_not, beq_iff_eq, beq_eq_false_iff_ne, bne_iff_ne, ne_eq, Bool.not_eq_true', Bool.not_eq_false', Bool.and_eq_true, Bool.or_eq_true, Bool.and_eq_false_imp, Bool.or_eq_false_iff, Bool.not_eq_true, Bool.not_eq_false] at hb2) <;> ((first | have hb3 : (_ : Bool) = _ := hb2 | have hb3 := eq_false hb2 | have hb3 := eq_true hb2); (simp (disch := omega) only [go_sem, Nat.reduceBEq, Nat.reduceBeqDiff, Nat.reduceEqDiff, ↓reduceIte, reduceCtorEq, Nat.reduceAdd, Nat.reduceMul, Nat.reduceLeDiff, Nat.reduceLT, Int.reduceLT, Int.reduceLE, Int.reduceEq, hb, hb3, encPs, cellsG_take, cellsG_splice, cellsG_getS]); clear hb hb3; (try (exfalso; omega)))) | (exfalso; omega))
    · rw [hR]
      exact fin_pure rfl (Le.tup ⟨Le.nil 1, Le.refl _, trivial⟩)
end Go.Proofs.Ytjibdljdkgedcaa
