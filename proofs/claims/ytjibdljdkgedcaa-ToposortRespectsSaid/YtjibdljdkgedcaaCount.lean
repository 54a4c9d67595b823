/-
  The walk of Count. No condition but lengths.
-/
import Derived.Test.YtjibdljdkgedcaaSort
set_option maxRecDepth 100000
set_option maxHeartbeats 8000000
set_option linter.unusedSimpArgs false
set_option linter.unusedVariables false
namespace Go.Proofs.Ytjibdljdkgedcaa
open Abs Facts Topo
attribute [local irreducible] awp
namespace Topo
def behindN (g : List Nat) (n : Nat) : Nat → List Nat
  | 0 => zeros
  | p + 1 => (behindN g n p).set p (aheadN g p n)
theorem behindN_length (g : List Nat) (n : Nat) : ∀ p, (behindN g n p).length = 16
  | 0 => zeros_length
  | p + 1 => by simp [behindN, behindN_length g n p]
def dpP (bh : List Nat) (s : Nat) : Nat → List Int → List Int
  | 0, c => c
  | p + 1, c => if (!s.testBit p && subU (bh.getD p 0) s) = true then (dpP bh s p c).set (orU s (2 ^ p)) (IntKind.i64.wrap ((dpP bh s p c).getD (orU s (2 ^ p)) 0 + (dpP bh s p c).getD s 0)) else dpP bh s p c
def dpS (bh : List Nat) (n : Nat) : Nat → List Int → List Int
  | 0, c => c
  | s + 1, c => dpP bh s n (dpS bh n s c)
def cnt (g : List Nat) (n : Nat) : List Int := dpS (behindN g n n) n (2 ^ n) ((List.replicate (2 ^ n) 0).set 0 1)
def countR (n : Int) (l : List Pr) : Int × Int :=
  if wrong n l ≠ 0 then (0, wrong n l) else
  if (cnt (graphL n l) n.toNat).getD (2 ^ n.toNat - 1) 0 = 0 then (0, 14) else ((cnt (graphL n l) n.toNat).getD (2 ^ n.toNat - 1) 0, 0)
theorem dpP_length (bh : List Nat) (s : Nat) (c : List Int) : ∀ p, (dpP bh s p c).length = c.length
  | 0 => rfl
  | p + 1 => by simp only [dpP]; split <;> simp [dpP_length bh s c p]
theorem dpS_length (bh : List Nat) (n : Nat) (c : List Int) : ∀ s, (dpS bh n s c).length = c.length
  | 0 => rfl
  | s + 1 => by simp only [dpS]; rw [dpP_length, dpS_length bh n c s]
theorem dpP_yes {bh : List Nat} {s q : Nat} {c : List Int} (h1 : s.testBit q = false) (h2 : subU (bh.getD q 0) s = true) :
    dpP bh s (q + 1) c = (dpP bh s q c).set (orU s (2 ^ q)) (IntKind.i64.wrap ((dpP bh s q c).getD (orU s (2 ^ q)) 0 + (dpP bh s q c).getD s 0)) := by
  simp only [dpP]; rw [if_pos (by rw [h1, h2]; rfl)]
theorem dpP_no {bh : List Nat} {s q : Nat} {c : List Int} (h : s.testBit q = true ∨ subU (bh.getD q 0) s = false) : dpP bh s (q + 1) c = dpP bh s q c := by
  simp only [dpP]
  rcases h with h | h
  · rw [if_neg (by rw [h]; simp)]
  · rw [if_neg (by rw [h]; simp)]
theorem wrapU {n : Int} (h : 0 ≤ n ∧ n < 18446744073709551616) : IntKind.u64.wrap n = n := by rw [IntKind.wrap_u64]; omega
theorem orU_lt_pow {s p n : Nat} (hs : s < 2 ^ n) (hp : p < n) : orU s (2 ^ p) < 2 ^ n :=
  Nat.lt_of_le_of_lt (Nat.mod_le _ _) (Nat.or_lt_two_pow hs (Nat.pow_lt_pow_right (by decide) hp))
end Topo
namespace Abs
def cellsU (g : List Nat) : List D := g.map fun m => .int .u64 (m : Nat)
@[go_sem] theorem cellsU_length (g : List Nat) : (cellsU g).length = g.length := by simp [cellsU]
@[go_sem] theorem cellsU_set (g : List Nat) (i m : Nat) : (cellsU g).set i (.int .u64 (m : Nat)) = cellsU (g.set i m) := by simp [cellsU, List.map_set]
theorem cellsU_get {g : List Nat} {i : Nat} (h : i < g.length) : (cellsU g)[i]? = some (.int .u64 ((g.getD i 0 : Nat) : Int)) := by simp [cellsU, h]
def cellsF' (d : List Int) : List D := d.map fun x => .int .i64 x
@[go_sem] theorem cellsF'_length (d : List Int) : (cellsF' d).length = d.length := by simp [cellsF']
@[go_sem] theorem cellsF'_set (d : List Int) (i : Nat) (v : Int) : (cellsF' d).set i (.int .i64 v) = cellsF' (d.set i v) := by simp [cellsF', List.map_set]
theorem cellsF'_get {d : List Int} {i : Nat} (h : i < d.length) : (cellsF' d)[i]? = some (.int .i64 (d.getD i 0)) := by simp [cellsF', h]
theorem rep_flat {α : Type} (x : α) : ∀ n, (List.replicate n [x]).flatten = List.replicate n x
  | 0 => rfl
  | n + 1 => by simp [List.replicate_succ, rep_flat x n]
theorem cells_rep (n : Nat) : (List.replicate n [D.int .i64 0]).flatten = cellsF' (List.replicate n 0) := by
  rw [rep_flat]; simp [cellsF']
end Abs
namespace Facts
@[go_sem] theorem zeroB : zeroT Try.prog 49 = some (cellsU zeros) := zeroT49
end Facts
theorem pc_Count (n : Int) (l : List Pr) (hl : l.length ≤ maxLen) : PC Try.prog 17 [.int .i64 n, encPs l] (.tup [.int .i64 (countR n l).1, .int .i64 (countR n l).2]) := by
  refine PC_intro 3 (by simp only [pureD.pureL, pure_encPs, pureD, Bool.and_self]) rfl (AC_intro [] Try.func17 rfl (by decide +kernel) mixed (by decide +kernel) (by simp [Try.ntmps17]) ?_)
  show awp _ _ (Code.seq _ _) _ _
  have hg : (graphL n l).length = 16 := graphL_length n l
  have hz := zeros_length
  by_cases hw : wrong n l = 0
  · obtain ⟨h0, h16⟩ := wrong_nat hw
    obtain ⟨m, rfl⟩ : ∃ m : Nat, n = m := ⟨n.toNat, by omega⟩
    have hR : countR m l = if (cnt (graphL m l) m).getD (2 ^ m - 1) 0 = 0 then (0, 14) else ((cnt (graphL m l) m).getD (2 ^ m - 1) 0, 0) := by
      unfold countR
      rw [if_neg (by simp [hw])]; simp only [Int.toNat_natCast]
    have hpc := pc_made m l hl
    rw [hw] at hpc
    rw [hR]
    generalize graphL (m : Int) l = g at *
    clear hR hw
    have hN : 2 ^ m ≤ 65536 := Nat.pow_le_pow_right (n := 2) (by decide) (show m ≤ 16 by omega)
    have hN1 : 1 ≤ 2 ^ m := Nat.one_le_two_pow
    have hor : ∀ s p, s < 2 ^ m → p < m → orU s (2 ^ p) < 2 ^ m := fun s p h1 h2 => orU_lt_pow h1 h2
    have hcnt : cnt g m = dpS (behindN g m m) m (2 ^ m) ((List.replicate (2 ^ m) 0).set 0 1) := rfl
    rw [hcnt]
    clear hcnt
    generalize hN2 : 2 ^ m = N at *
    repeat' (first | refine awp_assoc ?_ | ((first | refine awp_seq_reg fun K hK => ?_ | refine awp_seq_draw (by decide +kernel) fun K hK => ?_ | refine awp_reg' fun K hK => ?_ | refine awp_draw' (by decide +kernel) fun K hK => ?_ | refine callW_pc (hpc) ?_ | refine callD_pc (hpc) ?_); (simp (disch := omega) only [go_sem, Nat.reduceBEq, Nat.reduceBeqDiff, Nat.reduceEqDiff, ↓reduceIte, reduceCtorEq, Nat.reduceAdd, Nat.reduceMul, Nat.reduceLeDiff, Nat.reduceLT, Int.reduceLT, Int.reduceLE, Int.reduceEq, cellsG_take, cellsG_splice, cellsG_getS])) | ((first | refine awp_seq_cond _ rfl (fun hc => ?_) (fun hc => ?_) | refine awp_cond _ rfl (fun hc => ?_) (fun hc => ?_)) <;> (first | (cases hc; done) | ((try simp only [decide_eq_true_eq, decide_eq_false_iff_not, Classical.not_not, beq_iff_eq, beq_eq_false_iff_ne, bne_iff_ne, ne_eq, Bool.not_eq_true', Bool.not_eq_false', Bool.and_eq_true, Bool.or_eq_true, Bool.and_eq_false_imp, Bool.or_eq_false_iff, Bool.not_eq_true, Bool.not_eq_false] at hc); (try (exfalso; omega))))) | refine awp_seq_block ?_ | refine awp_block ?_ | refine awp_seq_skip ?_ | refine awp_seq_ret ?_ | refine awp_seq_exit ?_ | refine awp_skip ?_ | refine awp_exit ?_ | refine awp_ret ?_ | refine seqK_n ?_ | refine seqK_e ?_ | refine seqK_r ?_ | refine blkK_n ?_ | refine blkK_e ?_ | refine blkK_o rfl ?_ | refine blkK_r ?_ | refine loopK_e ?_ | refine loopK_r ?_ | refine retQ_E (by (simp (disch := omega) only [go_sem, Nat.reduceBEq, Nat.reduceBeqDiff, Nat.reduceEqDiff, ↓reduceIte, reduceCtorEq, Nat.reduceAdd, Nat.reduceMul, Nat.reduceLeDiff, Nat.reduceLT, Int.reduceLT, Int.reduceLE, Int.reduceEq, cellsG_take, cellsG_splice, cellsG_getS]); rfl) rfl ?_ | (refine hK _ ?_; clear hK K) | (refine stepG_split (fun hb => ?_) (fun hb => ?_) <;> (have hb2 := hb; try simp only [decide_eq_true_eq, decide_eq_false_iff_not, Classical.not_not, beq_iff_eq, beq_eq_false_iff_ne, bne_iff_ne, ne_eq, Bool.not_eq_true', Bool.not_eq_false', Bool.and_eq_true, Bool.or_eq_true, Bool.and_eq_false_imp, Bool.or_eq_false_iff, Bool.not_eq_true, Bool.not_eq_false] at hb2) <;> ((first | have hb3 : (_ : Bool) = _ := hb2 | have hb3 := eq_false hb2 | have hb3 := eq_true hb2); (simp (disch := omega) only [go_sem, Nat.reduceBEq, Nat.reduceBeqDiff, Nat.reduceEqDiff, ↓reduceIte, reduceCtorEq, Nat.reduceAdd, Nat.reduceMul, Nat.reduceLeDiff, Nat.reduceLT, Int.reduceLT, Int.reduceLE, Int.reduceEq, hb, hb3, cellsG_take, cellsG_splice, cellsG_getS]); clear hb hb3; (try (exfalso; omega)))) | (exfalso; omega))
    (refine awp_loop' (fun mz st => ∃ (p : _), mz = m - p ∧ st.t 0 = .int .i64 m ∧ st.t 6 = .ptr 0 0 ∧ st.t 8 = .ptr 1 0 ∧ st.t 22 = .int .i64 m ∧ st.t 23 = .int .i64 p ∧ st.H 0 = some (.box 51 (cellsG m g)) ∧ st.H 1 = some (.box 49 (cellsU (behindN g m p))) ∧ st.nx = 2 ∧ (p ≤ m)) ?_ ?_); rotate_left; (rintro mz st ⟨p, rfl, s0, s6, s8, s22, s23, sH0, sH1, snx, sp0⟩); rotate_left
    · (refine ⟨_, 0, rfl, ?_⟩); (simp (disch := omega) only [go_sem, Nat.reduceBEq, Nat.reduceBeqDiff, Nat.reduceEqDiff, ↓reduceIte, reduceCtorEq, Nat.reduceAdd, Nat.reduceMul, Nat.reduceLeDiff, Nat.reduceLT, Int.reduceLT, Int.reduceLE, Int.reduceEq, true_and, and_true, and_self, Int.natCast_add, Int.natCast_one, Int.natCast_zero, List.flatMap_nil, List.map_nil, List.append_nil, List.nil_append])
      rfl
    have hb := behindN_length g m p
    repeat' (first | refine awp_assoc ?_ | ((first | refine awp_seq_reg fun K hK => ?_ | refine awp_seq_draw (by decide +kernel) fun K hK => ?_ | refine awp_reg' fun K hK => ?_ | refine awp_draw' (by decide +kernel) fun K hK => ?_ | refine callW_pc (pc_ahead m (by omega) g hg p (by omega)) ?_ | refine callD_pc (pc_ahead m (by omega) g hg p (by omega)) ?_); (simp (disch := omega) only [go_sem, Nat.reduceBEq, Nat.reduceBeqDiff, Nat.reduceEqDiff, ↓reduceIte, reduceCtorEq, Nat.reduceAdd, Nat.reduceMul, Nat.reduceLeDiff, Nat.reduceLT, Int.reduceLT, Int.reduceLE, Int.reduceEq, s0, s6, s8, s22, s23, sH0, sH1, snx, cellsG_take, cellsG_splice, cellsG_getS, cellsU_get, shlI, shlU, cells_rep, hN2])) | ((first | refine awp_seq_cond _ rfl (fun hc => ?_) (fun hc => ?_) | refine awp_cond _ rfl (fun hc => ?_) (fun hc => ?_)) <;> (first | (cases hc; done) | ((try simp only [decide_eq_true_eq, decide_eq_false_iff_not, Classical.not_not, beq_iff_eq, beq_eq_false_iff_ne, bne_iff_ne, ne_eq, Bool.not_eq_true', Bool.not_eq_false', Bool.and_eq_true, Bool.or_eq_true, Bool.and_eq_false_imp, Bool.or_eq_false_iff, Bool.not_eq_true, Bool.not_eq_false] at hc); (try (exfalso; omega))))) | refine awp_seq_block ?_ | refine awp_block ?_ | refine awp_seq_skip ?_ | refine awp_seq_ret ?_ | refine awp_seq_exit ?_ | refine awp_skip ?_ | refine awp_exit ?_ | refine awp_ret ?_ | refine seqK_n ?_ | refine seqK_e ?_ | refine seqK_r ?_ | refine blkK_n ?_ | refine blkK_e ?_ | refine blkK_o rfl ?_ | refine blkK_r ?_ | refine loopK_e ?_ | refine loopK_r ?_ | refine retQ_E (by (simp (disch := omega) only [go_sem, Nat.reduceBEq, Nat.reduceBeqDiff, Nat.reduceEqDiff, ↓reduceIte, reduceCtorEq, Nat.reduceAdd, Nat.reduceMul, Nat.reduceLeDiff, Nat.reduceLT, Int.reduceLT, Int.reduceLE, Int.reduceEq, s0, s6, s8, s22, s23, sH0, sH1, snx, cellsG_take, cellsG_splice, cellsG_getS, cellsU_get, shlI, shlU, cells_rep, hN2]); rfl) rfl ?_ | (refine hK _ ?_; clear hK K) | (refine stepG_split (fun hb => ?_) (fun hb => ?_) <;> (have hb2 := hb; try simp only [decide_eq_true_eq, decide_eq_false_iff_not, Classical.not_not, beq_iff_eq, beq_eq_false_iff_ne, bne_iff_ne, ne_eq, Bool.not_eq_true', Bool.not_eq_false', Bool.and_eq_true, Bool.or_eq_true, Bool.and_eq_false_imp, Bool.or_eq_false_iff, Bool.not_eq_true, Bool.not_eq_false] at hb2) <;> ((first | have hb3 : (_ : Bool) = _ := hb2 | have hb3 := eq_false hb2 | have hb3 := eq_true hb2); (simp (disch := omega) only [go_sem, Nat.reduceBEq, Nat.reduceBeqDiff, Nat.reduceEqDiff, ↓reduceIte, reduceCtorEq, Nat.reduceAdd, Nat.reduceMul, Nat.reduceLeDiff, Nat.reduceLT, Int.reduceLT, Int.reduceLE, Int.reduceEq, hb, hb3, s0, s6, s8, s22, s23, sH0, sH1, snx, cellsG_take, cellsG_splice, cellsG_getS, cellsU_get, shlI, shlU, cells_rep, hN2]); clear hb hb3; (try (exfalso; omega)))) | (exfalso; omega))
    · (refine Exists.intro _ (And.intro ?_ ⟨p + 1, rfl, ?_⟩)); rotate_left; (simp (disch := omega) only [go_sem, Nat.reduceBEq, Nat.reduceBeqDiff, Nat.reduceEqDiff, ↓reduceIte, reduceCtorEq, Nat.reduceAdd, Nat.reduceMul, Nat.reduceLeDiff, Nat.reduceLT, Int.reduceLT, Int.reduceLE, Int.reduceEq, s0, s6, s8, s22, s23, sH0, sH1, snx, true_and, and_true, and_self, Int.natCast_add, Int.natCast_one, Int.natCast_zero, List.flatMap_append, List.flatMap_cons, List.flatMap_nil, List.map_append, List.map_cons, List.map_nil, List.append_nil, List.cons_append, List.nil_append, behindN]); rotate_left
      · omega
      · omega
    · have h1 : p = m := by omega
      subst h1
      skip
      (refine awp_loop' (fun mz st => ∃ (s : _), mz = N - s ∧ st.t 0 = .int .i64 p ∧ st.t 8 = .ptr 1 0 ∧ st.t 10 = .osl 2 N ∧ st.t 38 = .int .u64 N ∧ st.t 39 = .int .u64 (s : Nat) ∧ st.H 1 = some (.box 49 (cellsU (behindN g p p))) ∧ st.H 2 = some (.row 2 N (cellsF' (dpS (behindN g p p) p s ((List.replicate N 0).set 0 1)))) ∧ (s ≤ N)) ?_ ?_); rotate_left; (rintro mz st ⟨s, rfl, u0, u8, u10, u38, u39, uH1, uH2, up0⟩); rotate_left
      · (refine ⟨_, 0, rfl, ?_⟩); (simp (disch := omega) only [go_sem, Nat.reduceBEq, Nat.reduceBeqDiff, Nat.reduceEqDiff, ↓reduceIte, reduceCtorEq, Nat.reduceAdd, Nat.reduceMul, Nat.reduceLeDiff, Nat.reduceLT, Int.reduceLT, Int.reduceLE, Int.reduceEq, s0, s6, s8, s22, s23, sH0, sH1, snx, true_and, and_true, and_self, Int.natCast_add, Int.natCast_one, Int.natCast_zero, List.flatMap_nil, List.map_nil, List.append_nil, List.nil_append])
        rfl
      have hl2 : ((List.replicate N (0 : Int)).set 0 1).length = N := by simp
      generalize (List.replicate N (0 : Int)).set 0 1 = c0 at *
      have hl := dpS_length (behindN g p p) p c0 s
      have hb := behindN_length g p p
      generalize behindN g p p = bh at *
      have hNi : ((N : Int) - 1).toNat = N - 1 := by omega
      repeat' (first | refine awp_assoc ?_ | ((first | refine awp_seq_reg fun K hK => ?_ | refine awp_seq_draw (by decide +kernel) fun K hK => ?_ | refine awp_reg' fun K hK => ?_ | refine awp_draw' (by decide +kernel) fun K hK => ?_); (simp (disch := omega) only [go_sem, Nat.reduceBEq, Nat.reduceBeqDiff, Nat.reduceEqDiff, ↓reduceIte, reduceCtorEq, Nat.reduceAdd, Nat.reduceMul, Nat.reduceLeDiff, Nat.reduceLT, Int.reduceLT, Int.reduceLE, Int.reduceEq, u0, u8, u10, u38, u39, uH1, uH2, cellsU_get, cellsF'_get, shlI, shlU, hN2, hNi])) | ((first | refine awp_seq_cond _ rfl (fun hc => ?_) (fun hc => ?_) | refine awp_cond _ rfl (fun hc => ?_) (fun hc => ?_)) <;> (first | (cases hc; done) | ((try simp only [decide_eq_true_eq, decide_eq_false_iff_not, Classical.not_not, beq_iff_eq, beq_eq_false_iff_ne, bne_iff_ne, ne_eq, Bool.not_eq_true', Bool.not_eq_false', Bool.and_eq_true, Bool.or_eq_true, Bool.and_eq_false_imp, Bool.or_eq_false_iff, Bool.not_eq_true, Bool.not_eq_false] at hc); (try (exfalso; omega))))) | refine awp_seq_block ?_ | refine awp_block ?_ | refine awp_seq_skip ?_ | refine awp_seq_ret ?_ | refine awp_seq_exit ?_ | refine awp_skip ?_ | refine awp_exit ?_ | refine awp_ret ?_ | refine seqK_n ?_ | refine seqK_e ?_ | refine seqK_r ?_ | refine blkK_n ?_ | refine blkK_e ?_ | refine blkK_o rfl ?_ | refine blkK_r ?_ | refine loopK_e ?_ | refine loopK_r ?_ | refine retQ_E (by (simp (disch := omega) only [go_sem, Nat.reduceBEq, Nat.reduceBeqDiff, Nat.reduceEqDiff, ↓reduceIte, reduceCtorEq, Nat.reduceAdd, Nat.reduceMul, Nat.reduceLeDiff, Nat.reduceLT, Int.reduceLT, Int.reduceLE, Int.reduceEq, u0, u8, u10, u38, u39, uH1, uH2, cellsU_get, cellsF'_get, shlI, shlU, hN2, hNi]); rfl) rfl ?_ | (refine hK _ ?_; clear hK K) | (refine stepG_split (fun hb => ?_) (fun hb => ?_) <;> (have hb2 := hb; try simp only [decide_eq_true_eq, decide_eq_false_iff_not, Classical.not_not, beq_iff_eq, beq_eq_false_iff_ne, bne_iff_ne, ne_eq, Bool.not_eq_true', Bool.not_eq_false', Bool.and_eq_true, Bool.or_eq_true, Bool.and_eq_false_imp, Bool.or_eq_false_iff, Bool.not_eq_true, Bool.not_eq_false] at hb2) <;> ((first | have hb3 : (_ : Bool) = _ := hb2 | have hb3 := eq_false hb2 | have hb3 := eq_true hb2); (simp (disch := omega) only [go_sem, Nat.reduceBEq, Nat.reduceBeqDiff, Nat.reduceEqDiff, ↓reduceIte, reduceCtorEq, Nat.reduceAdd, Nat.reduceMul, Nat.reduceLeDiff, Nat.reduceLT, Int.reduceLT, Int.reduceLE, Int.reduceEq, hb, hb3, u0, u8, u10, u38, u39, uH1, uH2, cellsU_get, cellsF'_get, shlI, shlU, hN2, hNi]); clear hb hb3; (try (exfalso; omega)))) | (exfalso; omega))
      · (refine awp_loop' (fun mz st => ∃ (q : _), mz = p - q ∧ st.t 0 = .int .i64 p ∧ st.t 8 = .ptr 1 0 ∧ st.t 10 = .osl 2 N ∧ st.t 11 = .int .u64 (s : Nat) ∧ st.t 38 = .int .u64 N ∧ st.t 39 = .int .u64 (s : Nat) ∧ st.t 42 = .int .i64 p ∧ st.t 43 = .int .i64 q ∧ st.H 1 = some (.box 49 (cellsU bh)) ∧ st.H 2 = some (.row 2 N (cellsF' (dpP bh s q (dpS bh p s c0)))) ∧ (q ≤ p)) ?_ ?_); rotate_left; (rintro mz st ⟨q, rfl, v0, v8, v10, v11, v38, v39, v42, v43, vH1, vH2, vp0⟩); rotate_left
        · (refine ⟨_, 0, rfl, ?_⟩); (simp (disch := omega) only [go_sem, Nat.reduceBEq, Nat.reduceBeqDiff, Nat.reduceEqDiff, ↓reduceIte, reduceCtorEq, Nat.reduceAdd, Nat.reduceMul, Nat.reduceLeDiff, Nat.reduceLT, Int.reduceLT, Int.reduceLE, Int.reduceEq, u0, u8, u10, u38, u39, uH1, uH2, true_and, and_true, and_self, Int.natCast_add, Int.natCast_one, Int.natCast_zero, List.flatMap_nil, List.map_nil, List.append_nil, List.nil_append])
          rfl
        have hl3 := dpP_length bh s (dpS bh p s c0) q
        have ho : q < p → orU s (2 ^ q) < N := fun hq => hor s q (by omega) hq
        by_cases hq : q < p
        · have ho := ho hq
          have hsn : s < N := by omega
          repeat' (first | refine awp_assoc ?_ | ((first | refine awp_seq_reg fun K hK => ?_ | refine awp_seq_draw (by decide +kernel) fun K hK => ?_ | refine awp_reg' fun K hK => ?_ | refine awp_draw' (by decide +kernel) fun K hK => ?_); (simp (disch := omega) only [go_sem, Nat.reduceBEq, Nat.reduceBeqDiff, Nat.reduceEqDiff, ↓reduceIte, reduceCtorEq, Nat.reduceAdd, Nat.reduceMul, Nat.reduceLeDiff, Nat.reduceLT, Int.reduceLT, Int.reduceLE, Int.reduceEq, v0, v8, v10, v11, v38, v39, v42, v43, vH1, vH2, cellsU_get, cellsF'_get, shlI, shlU, shrU, bits_and1, bit_zero, bits_andNot, sub_zero', bits_or])) | ((first | refine awp_seq_cond _ rfl (fun hc => ?_) (fun hc => ?_) | refine awp_cond _ rfl (fun hc => ?_) (fun hc => ?_)) <;> (first | (cases hc; done) | ((try simp only [decide_eq_true_eq, decide_eq_false_iff_not, Classical.not_not, beq_iff_eq, beq_eq_false_iff_ne, bne_iff_ne, ne_eq, Bool.not_eq_true', Bool.not_eq_false', Bool.and_eq_true, Bool.or_eq_true, Bool.and_eq_false_imp, Bool.or_eq_false_iff, Bool.not_eq_true, Bool.not_eq_false] at hc); (try (exfalso; omega))))) | refine awp_seq_block ?_ | refine awp_block ?_ | refine awp_seq_skip ?_ | refine awp_seq_ret ?_ | refine awp_seq_exit ?_ | refine awp_skip ?_ | refine awp_exit ?_ | refine awp_ret ?_ | refine seqK_n ?_ | refine seqK_e ?_ | refine seqK_r ?_ | refine blkK_n ?_ | refine blkK_e ?_ | refine blkK_o rfl ?_ | refine blkK_r ?_ | refine loopK_e ?_ | refine loopK_r ?_ | refine retQ_E (by (simp (disch := omega) only [go_sem, Nat.reduceBEq, Nat.reduceBeqDiff, Nat.reduceEqDiff, ↓reduceIte, reduceCtorEq, Nat.reduceAdd, Nat.reduceMul, Nat.reduceLeDiff, Nat.reduceLT, Int.reduceLT, Int.reduceLE, Int.reduceEq, v0, v8, v10, v11, v38, v39, v42, v43, vH1, vH2, cellsU_get, cellsF'_get, shlI, shlU, shrU, bits_and1, bit_zero, bits_andNot, sub_zero', bits_or]); rfl) rfl ?_ | (refine hK _ ?_; clear hK K) | (refine stepG_split (fun hb => ?_) (fun hb => ?_) <;> (have hb2 := hb; try simp only [decide_eq_true_eq, decide_eq_false_iff_not, Classical.not_not, beq_iff_eq, beq_eq_false_iff_ne, bne_iff_ne, ne_eq, Bool.not_eq_true', Bool.not_eq_false', Bool.and_eq_true, Bool.or_eq_true, Bool.and_eq_false_imp, Bool.or_eq_false_iff, Bool.not_eq_true, Bool.not_eq_false] at hb2) <;> ((first | have hb3 : (_ : Bool) = _ := hb2 | have hb3 := eq_false hb2 | have hb3 := eq_true hb2); (simp (disch := omega) only [go_sem, Nat.reduceBEq, Nat.reduceBeqDiff, Nat.reduceEqDiff, ↓reduceIte, reduceCtorEq, Nat.reduceAdd, Nat.reduceMul, Nat.reduceLeDiff, Nat.reduceLT, Int.reduceLT, Int.reduceLE, Int.reduceEq, hb, hb3, v0, v8, v10, v11, v38, v39, v42, v43, vH1, vH2, cellsU_get, cellsF'_get, shlI, shlU, shrU, bits_and1, bit_zero, bits_andNot, sub_zero', bits_or]); clear hb hb3; (try (exfalso; omega)))) | (exfalso; omega))
          · have h1 := dpP_yes (bh := bh) (c := dpS bh p s c0) (q := q) (s := s) (by assumption) (by assumption)
            (refine Exists.intro _ (And.intro ?_ ⟨q + 1, rfl, ?_⟩)); rotate_left; (simp (disch := omega) only [go_sem, Nat.reduceBEq, Nat.reduceBeqDiff, Nat.reduceEqDiff, ↓reduceIte, reduceCtorEq, Nat.reduceAdd, Nat.reduceMul, Nat.reduceLeDiff, Nat.reduceLT, Int.reduceLT, Int.reduceLE, Int.reduceEq, v0, v8, v10, v11, v38, v39, v42, v43, vH1, vH2, true_and, and_true, and_self, Int.natCast_add, Int.natCast_one, Int.natCast_zero, List.flatMap_append, List.flatMap_cons, List.flatMap_nil, List.map_append, List.map_cons, List.map_nil, List.append_nil, List.cons_append, List.nil_append, h1]); rotate_left
            · omega
            · omega
          · have h1 := dpP_no (bh := bh) (c := dpS bh p s c0) (q := q) (s := s) (.inr (by assumption))
            (refine Exists.intro _ (And.intro ?_ ⟨q + 1, rfl, ?_⟩)); rotate_left; (simp (disch := omega) only [go_sem, Nat.reduceBEq, Nat.reduceBeqDiff, Nat.reduceEqDiff, ↓reduceIte, reduceCtorEq, Nat.reduceAdd, Nat.reduceMul, Nat.reduceLeDiff, Nat.reduceLT, Int.reduceLT, Int.reduceLE, Int.reduceEq, v0, v8, v10, v11, v38, v39, v42, v43, vH1, vH2, true_and, and_true, and_self, Int.natCast_add, Int.natCast_one, Int.natCast_zero, List.flatMap_append, List.flatMap_cons, List.flatMap_nil, List.map_append, List.map_cons, List.map_nil, List.append_nil, List.cons_append, List.nil_append, h1]); rotate_left
            · omega
            · omega
          · have h1 := dpP_no (bh := bh) (c := dpS bh p s c0) (q := q) (s := s) (.inl (by assumption))
            (refine Exists.intro _ (And.intro ?_ ⟨q + 1, rfl, ?_⟩)); rotate_left; (simp (disch := omega) only [go_sem, Nat.reduceBEq, Nat.reduceBeqDiff, Nat.reduceEqDiff, ↓reduceIte, reduceCtorEq, Nat.reduceAdd, Nat.reduceMul, Nat.reduceLeDiff, Nat.reduceLT, Int.reduceLT, Int.reduceLE, Int.reduceEq, v0, v8, v10, v11, v38, v39, v42, v43, vH1, vH2, true_and, and_true, and_self, Int.natCast_add, Int.natCast_one, Int.natCast_zero, List.flatMap_append, List.flatMap_cons, List.flatMap_nil, List.map_append, List.map_cons, List.map_nil, List.append_nil, List.cons_append, List.nil_append, h1]); rotate_left
            · omega
            · omega
        · repeat' (first | refine awp_assoc ?_ | ((first | refine awp_seq_reg fun K hK => ?_ | refine awp_seq_draw (by decide +kernel) fun K hK => ?_ | refine awp_reg' fun K hK => ?_ | refine awp_draw' (by decide +kernel) fun K hK => ?_); (simp (disch := omega) only [go_sem, Nat.reduceBEq, Nat.reduceBeqDiff, Nat.reduceEqDiff, ↓reduceIte, reduceCtorEq, Nat.reduceAdd, Nat.reduceMul, Nat.reduceLeDiff, Nat.reduceLT, Int.reduceLT, Int.reduceLE, Int.reduceEq, v0, v8, v10, v11, v38, v39, v42, v43, vH1, vH2, cellsU_get, cellsF'_get, wrapU])) | ((first | refine awp_seq_cond _ rfl (fun hc => ?_) (fun hc => ?_) | refine awp_cond _ rfl (fun hc => ?_) (fun hc => ?_)) <;> (first | (cases hc; done) | ((try simp only [decide_eq_true_eq, decide_eq_false_iff_not, Classical.not_not, beq_iff_eq, beq_eq_false_iff_ne, bne_iff_ne, ne_eq, Bool.not_eq_true', Bool.not_eq_false', Bool.and_eq_true, Bool.or_eq_true, Bool.and_eq_false_imp, Bool.or_eq_false_iff, Bool.not_eq_true, Bool.not_eq_false] at hc); (try (exfalso; omega))))) | refine awp_seq_block ?_ | refine awp_block ?_ | refine awp_seq_skip ?_ | refine awp_seq_ret ?_ | refine awp_seq_exit ?_ | refine awp_skip ?_ | refine awp_exit ?_ | refine awp_ret ?_ | refine seqK_n ?_ | refine seqK_e ?_ | refine seqK_r ?_ | refine blkK_n ?_ | refine blkK_e ?_ | refine blkK_o rfl ?_ | refine blkK_r ?_ | refine loopK_e ?_ | refine loopK_r ?_ | refine retQ_E (by (simp (disch := omega) only [go_sem, Nat.reduceBEq, Nat.reduceBeqDiff, Nat.reduceEqDiff, ↓reduceIte, reduceCtorEq, Nat.reduceAdd, Nat.reduceMul, Nat.reduceLeDiff, Nat.reduceLT, Int.reduceLT, Int.reduceLE, Int.reduceEq, v0, v8, v10, v11, v38, v39, v42, v43, vH1, vH2, cellsU_get, cellsF'_get, wrapU]); rfl) rfl ?_ | (refine hK _ ?_; clear hK K) | (refine stepG_split (fun hb => ?_) (fun hb => ?_) <;> (have hb2 := hb; try simp only [decide_eq_true_eq, decide_eq_false_iff_not, Classical.not_not, beq_iff_eq, beq_eq_false_iff_ne, bne_iff_ne, ne_eq, Bool.not_eq_true', Bool.not_eq_false', Bool.and_eq_true, Bool.or_eq_true, Bool.and_eq_false_imp, Bool.or_eq_false_iff, Bool.not_eq_true, Bool.not_eq_false] at hb2) <;> ((first | have hb3 : (_ : Bool) = _ := hb2 | have hb3 := eq_false hb2 | have hb3 := eq_true hb2); (simp (disch := omega) only [go_sem, Nat.reduceBEq, Nat.reduceBeqDiff, Nat.reduceEqDiff, ↓reduceIte, reduceCtorEq, Nat.reduceAdd, Nat.reduceMul, Nat.reduceLeDiff, Nat.reduceLT, Int.reduceLT, Int.reduceLE, Int.reduceEq, hb, hb3, v0, v8, v10, v11, v38, v39, v42, v43, vH1, vH2, cellsU_get, cellsF'_get, wrapU]); clear hb hb3; (try (exfalso; omega)))) | (exfalso; omega))
          have h1 : q = p := by omega
          subst h1
          (refine Exists.intro _ (And.intro ?_ ⟨s + 1, rfl, ?_⟩)); rotate_left; (simp (disch := omega) only [go_sem, Nat.reduceBEq, Nat.reduceBeqDiff, Nat.reduceEqDiff, ↓reduceIte, reduceCtorEq, Nat.reduceAdd, Nat.reduceMul, Nat.reduceLeDiff, Nat.reduceLT, Int.reduceLT, Int.reduceLE, Int.reduceEq, v0, v8, v10, v11, v38, v39, v42, v43, vH1, vH2, true_and, and_true, and_self, Int.natCast_add, Int.natCast_one, Int.natCast_zero, List.flatMap_append, List.flatMap_cons, List.flatMap_nil, List.map_append, List.map_cons, List.map_nil, List.append_nil, List.cons_append, List.nil_append, dpS]); rotate_left
          · omega
          · omega
      · have h1 : s = N := by omega
        subst h1
        rw [if_pos (by assumption)]
        exact fin_pure rfl (Le.refl _)
      · have h1 : s = N := by omega
        subst h1
        rw [if_neg (by assumption)]
        exact fin_pure rfl (Le.refl _)
  · have hR : countR n l = (0, wrong n l) := by unfold countR; rw [if_pos hw]
    skip
    repeat' (first | refine awp_assoc ?_ | ((first | refine awp_seq_reg fun K hK => ?_ | refine awp_seq_draw (by decide +kernel) fun K hK => ?_ | refine awp_reg' fun K hK => ?_ | refine awp_draw' (by decide +kernel) fun K hK => ?_ | refine callW_pc (pc_made n l hl) ?_ | refine callD_pc (pc_made n l hl) ?_); (simp (disch := omega) only [go_sem, Nat.reduceBEq, Nat.reduceBeqDiff, Nat.reduceEqDiff, ↓reduceIte, reduceCtorEq, Nat.reduceAdd, Nat.reduceMul, Nat.reduceLeDiff, Nat.reduceLT, Int.reduceLT, Int.reduceLE, Int.reduceEq, encPs, cellsG_take, cellsG_splice, cellsG_getS])) | ((first | refine awp_seq_cond _ rfl (fun hc => ?_) (fun hc => ?_) | refine awp_cond _ rfl (fun hc => ?_) (fun hc => ?_)) <;> (first | (cases hc; done) | ((try simp only [decide_eq_true_eq, decide_eq_false_iff_not, Classical.not_not, beq_iff_eq, beq_eq_false_iff_ne, bne_iff_ne, ne_eq, Bool.not_eq_true', Bool.not_eq_false', Bool.and_eq_true, Bool.or_eq_true, Bool.and_eq_false_imp, Bool.or_eq_false_iff, Bool.not_eq_true, Bool.not_eq_false] at hc); (try (exfalso; omega))))) | refine awp_seq_block ?_ | refine awp_block ?_ | refine awp_seq_skip ?_ | refine awp_seq_ret ?_ | refine awp_seq_exit ?_ | refine awp_skip ?_ | refine awp_exit ?_ | refine awp_ret ?_ | refine seqK_n ?_ | refine seqK_e ?_ | refine seqK_r ?_ | refine blkK_n ?_ | refine blkK_e ?_ | refine blkK_o rfl ?_ | refine blkK_r ?_ | refine loopK_e ?_ | refine loopK_r ?_ | refine retQ_E (by (simp (disch := omega) only [go_sem, Nat.reduceBEq, Nat.reduceBeqDiff, Nat.reduceEqDiff, ↓reduceIte, reduceCtorEq, Nat.reduceAdd, Nat.reduceMul, Nat.reduceLeDiff, Nat.reduceLT, Int.reduceLT, Int.reduceLE, Int.reduceEq, encPs, cellsG_take, cellsG_splice, cellsG_getS]); rfl) rfl ?_ | (refine hK _ ?_; clear hK K) | (refine stepG_split (fun hb => ?_) (fun hb => ?_) <;> (have hb2 := hb; try simp only [decide_eq_true_eq, decide_eq_false_iff_not, Classical.not_not, beq_iff_eq, beq_eq_false_iff_ne, bne_iff_ne, ne_eq, Bool.not_eq_true', Bool.not_eq_false', Bool.and_eq_true, Bool.or_eq_true, Bool.and_eq_false_imp, Bool.or_eq_false_iff, Bool.not_eq_true, Bool.not_eq_false] at hb2) <;> ((first | have hb3 : (_ : Bool) = _ := hb2 | have hb3 := eq_false hb2 | have hb3 := eq_true hb2); (simp (disch := omega) only [go_sem, Nat.reduceBEq, Nat.reduceBeqDiff, Nat.reduceEqDiff, ↓reduceIte, reduceCtorEq, Nat.reduceAdd, Nat.reduceMul, Nat.reduceLeDiff, Nat.reduceLT, Int.reduceLT, Int.reduceLE, Int.reduceEq, hb, hb3, encPs, cellsG_take, cellsG_splice, cellsG_getS]); clear hb hb3; (try (exfalso; omega)))) | (exfalso; omega))
    rw [hR]
    exact fin_pure rfl (Le.refl _)
end Go.Proofs.Ytjibdljdkgedcaa
