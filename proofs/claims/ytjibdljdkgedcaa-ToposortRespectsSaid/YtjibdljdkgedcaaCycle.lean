/-
  The walk of Cycle. No condition but lengths.
-/
import Derived.Test.YtjibdljdkgedcaaSort
import Derived.Test.YtjibdljdkgedcaaFar
set_option maxRecDepth 100000
set_option maxHeartbeats 8000000
set_option linter.unusedSimpArgs false
set_option linter.unusedVariables false
namespace Go.Proofs.Ytjibdljdkgedcaa
open Abs Facts Topo
attribute [local irreducible] awp
namespace Topo
def startI (d : List Int) (n : Nat) : Nat → Int
  | 0 => -1
  | p + 1 => if d.getD (p * 16 + p) 0 ≤ n ∧ (startI d n p < 0 ∨ d.getD (p * 16 + p) 0 < d.getD ((startI d n p).toNat * 16 + (startI d n p).toNat) 0) then (p : Int) else startI d n p
theorem startI_bounds (d : List Int) (n : Nat) : ∀ p, -1 ≤ startI d n p ∧ startI d n p < p
  | 0 => by simp [startI]
  | p + 1 => by
    have := startI_bounds d n p
    simp only [startI]
    split <;> omega
theorem startI_yes {d : List Int} {n p : Nat} (h : d.getD (p * 16 + p) 0 ≤ n) (h2 : startI d n p < 0 ∨ d.getD (p * 16 + p) 0 < d.getD ((startI d n p).toNat * 16 + (startI d n p).toNat) 0) : startI d n (p + 1) = p := by
  simp only [startI]; rw [if_pos ⟨h, h2⟩]
theorem startI_no {d : List Int} {n p : Nat} (h : ¬ (d.getD (p * 16 + p) 0 ≤ n ∧ (startI d n p < 0 ∨ d.getD (p * 16 + p) 0 < d.getD ((startI d n p).toNat * 16 + (startI d n p).toNat) 0))) : startI d n (p + 1) = startI d n p := by
  simp only [startI]; rw [if_neg h]
def onC (g : List Nat) (d : List Int) (s a : Nat) (left : Int) (p : Nat) : Bool := (g.getD a 0).testBit p && decide (d.getD (p * 16 + s) 0 = left)
def walkC (g : List Nat) (d : List Int) (n s : Nat) : Nat → List Nat → List Nat
  | 0, out => out
  | k + 1, out => match (List.range n).find? (onC g d s (out.getLastD 0) ((k + 1 : Nat) : Int)) with
    | none => walkC g d n s k out
    | some p => walkC g d n s k (out ++ [p])
def cycleG (g : List Nat) (n : Nat) : List Nat :=
  if startI (farL g n) n n < 0 then [] else
    walkC g (farL g n) n (startI (farL g n) n n).toNat ((farL g n).getD ((startI (farL g n) n n).toNat * 16 + (startI (farL g n) n n).toNat) 0 - 1).toNat [(startI (farL g n) n n).toNat]
def cycleR (n : Int) (l : List Pr) : List Nat := if wrong n l ≠ 0 then [] else cycleG (graphL n l) n.toNat
end Topo
theorem pc_Cycle (n : Int) (l : List Pr) (hl : l.length ≤ maxLen) : PC Try.prog 15 [.int .i64 n, encPs l] (encN (cycleR n l)) := by
  refine PC_intro 3 (by simp only [pureD.pureL, pure_encPs, pureD, Bool.and_self]) (pure_encN _) (AC_intro [57] Try.func15 rfl (by decide +kernel) mixed (by decide +kernel) (by simp [Try.ntmps15]) ?_)
  show awp _ _ (Code.seq _ _) _ _
  have hg : (graphL n l).length = 16 := graphL_length n l
  have hz := zeros_length
  have hz2 := okD_zero.1
  by_cases hw : wrong n l = 0
  · obtain ⟨h0, h16⟩ := wrong_nat hw
    obtain ⟨m, rfl⟩ : ∃ m : Nat, n = m := ⟨n.toNat, by omega⟩
    have hR : cycleR m l = cycleG (graphL m l) m := by
      unfold cycleR
      rw [if_neg (by simp [hw])]; simp only [Int.toNat_natCast]
    have hpc := pc_made m l hl
    rw [hw] at hpc
    rw [hR]
    generalize graphL (m : Int) l = g at *
    clear hR hw
    have hpf := pc_far m (by omega) g hg
    have hR : cycleG g m = if startI (farL g m) m m < 0 then [] else
      walkC g (farL g m) m (startI (farL g m) m m).toNat ((farL g m).getD ((startI (farL g m) m m).toNat * 16 + (startI (farL g m) m m).toNat) 0 - 1).toNat [(startI (farL g m) m m).toNat] := rfl
    have hok : okD (farL g m) := okD_relK m (okD_initA g m okD_zero m) m
    rw [hR]
    clear hR
    generalize farL g m = d at *
    have hd := hok.1
    repeat' (first | refine awp_assoc ?_ | ((first | refine awp_seq_reg fun K hK => ?_ | refine awp_seq_draw (by decide +kernel) fun K hK => ?_ | refine awp_reg' fun K hK => ?_ | refine awp_draw' (by decide +kernel) fun K hK => ?_ | refine callW_pc (hpc) ?_ | refine callD_pc (hpc) ?_ | refine callW_pc (hpf) ?_ | refine callD_pc (hpf) ?_); (simp (disch := omega) only [go_sem, Nat.reduceBEq, Nat.reduceBeqDiff, Nat.reduceEqDiff, ↓reduceIte, reduceCtorEq, Nat.reduceAdd, Nat.reduceMul, Nat.reduceLeDiff, Nat.reduceLT, Int.reduceLT, Int.reduceLE, Int.reduceEq, cellsG_take, cellsG_splice, cellsG_getS, cellsF_splice])) | ((first | refine awp_seq_cond _ rfl (fun hc => ?_) (fun hc => ?_) | refine awp_cond _ rfl (fun hc => ?_) (fun hc => ?_)) <;> (first | (cases hc; done) | ((try simp only [decide_eq_true_eq, decide_eq_false_iff_not, Classical.not_not, beq_iff_eq, beq_eq_false_iff_ne, bne_iff_ne, ne_eq, Bool.not_eq_true', Bool.not_eq_false', Bool.and_eq_true, Bool.or_eq_true, Bool.and_eq_false_imp, Bool.or_eq_false_iff, Bool.not_eq_true, Bool.not_eq_false] at hc); (try (exfalso; omega))))) | refine awp_seq_block ?_ | refine awp_block ?_ | refine awp_seq_skip ?_ | refine awp_seq_ret ?_ | refine awp_seq_exit ?_ | refine awp_skip ?_ | refine awp_exit ?_ | refine awp_ret ?_ | refine seqK_n ?_ | refine seqK_e ?_ | refine seqK_r ?_ | refine blkK_n ?_ | refine blkK_e ?_ | refine blkK_o rfl ?_ | refine blkK_r ?_ | refine loopK_e ?_ | refine loopK_r ?_ | refine retQ_E (by (simp (disch := omega) only [go_sem, Nat.reduceBEq, Nat.reduceBeqDiff, Nat.reduceEqDiff, ↓reduceIte, reduceCtorEq, Nat.reduceAdd, Nat.reduceMul, Nat.reduceLeDiff, Nat.reduceLT, Int.reduceLT, Int.reduceLE, Int.reduceEq, cellsG_take, cellsG_splice, cellsG_getS, cellsF_splice]); rfl) rfl ?_ | (refine hK _ ?_; clear hK K) | (refine stepG_split (fun hb => ?_) (fun hb => ?_) <;> (have hb2 := hb; try simp only [decide_eq_true_eq, decide_eq_false_iff_not, Classical.not_not, beq_iff_eq, beq_eq_false_iff_ne, bne_iff_ne, ne_eq, Bool.not_eq_true', Bool.not_eq_false', Bool.and_eq_true, Bool.or_eq_true, Bool.and_eq_false_imp, Bool.or_eq_false_iff, Bool.not_eq_true, Bool.not_eq_false] at hb2) <;> ((first | have hb3 : (_ : Bool) = _ := hb2 | have hb3 := eq_false hb2 | have hb3 := eq_true hb2); (simp (disch := omega) only [go_sem, Nat.reduceBEq, Nat.reduceBeqDiff, Nat.reduceEqDiff, ↓reduceIte, reduceCtorEq, Nat.reduceAdd, Nat.reduceMul, Nat.reduceLeDiff, Nat.reduceLT, Int.reduceLT, Int.reduceLE, Int.reduceEq, hb, hb3, cellsG_take, cellsG_splice, cellsG_getS, cellsF_splice]); clear hb hb3; (try (exfalso; omega)))) | (exfalso; omega))
    (refine awp_loop' (fun mz st => ∃ (p : _), mz = m - p ∧ st.t 0 = .int .i64 m ∧ st.t 5 = .ptr 0 0 ∧ st.t 7 = .ptr 1 0 ∧ st.t 8 = .int .i64 (startI d m p) ∧ st.t 24 = .int .i64 m ∧ st.t 25 = .int .i64 p ∧ st.H 0 = some (.box 51 (cellsG m g)) ∧ st.H 1 = some (.box 57 (cellsF d)) ∧ st.nx = 2 ∧ (p ≤ m)) ?_ ?_); rotate_left; (rintro mz st ⟨p, rfl, s0, s5, s7, s8, s24, s25, sH0, sH1, snx, sp0⟩); rotate_left
    · (refine ⟨_, 0, rfl, ?_⟩); (simp (disch := omega) only [go_sem, Nat.reduceBEq, Nat.reduceBeqDiff, Nat.reduceEqDiff, ↓reduceIte, reduceCtorEq, Nat.reduceAdd, Nat.reduceMul, Nat.reduceLeDiff, Nat.reduceLT, Int.reduceLT, Int.reduceLE, Int.reduceEq, true_and, and_true, and_self, Int.natCast_add, Int.natCast_one, Int.natCast_zero, List.flatMap_nil, List.map_nil, List.append_nil, List.nil_append])
      rfl
    have hsb := startI_bounds d m p
    repeat' (first | refine awp_assoc ?_ | ((first | refine awp_seq_reg fun K hK => ?_ | refine awp_seq_draw (by decide +kernel) fun K hK => ?_ | refine awp_reg' fun K hK => ?_ | refine awp_draw' (by decide +kernel) fun K hK => ?_); (simp (disch := omega) only [go_sem, Nat.reduceBEq, Nat.reduceBeqDiff, Nat.reduceEqDiff, ↓reduceIte, reduceCtorEq, Nat.reduceAdd, Nat.reduceMul, Nat.reduceLeDiff, Nat.reduceLT, Int.reduceLT, Int.reduceLE, Int.reduceEq, s0, s5, s7, s8, s24, s25, sH0, sH1, snx, cellsG_take, cellsG_splice, cellsG_getS, cellsF_get])) | ((first | refine awp_seq_cond _ rfl (fun hc => ?_) (fun hc => ?_) | refine awp_cond _ rfl (fun hc => ?_) (fun hc => ?_)) <;> (first | (cases hc; done) | ((try simp only [decide_eq_true_eq, decide_eq_false_iff_not, Classical.not_not, beq_iff_eq, beq_eq_false_iff_ne, bne_iff_ne, ne_eq, Bool.not_eq_true', Bool.not_eq_false', Bool.and_eq_true, Bool.or_eq_true, Bool.and_eq_false_imp, Bool.or_eq_false_iff, Bool.not_eq_true, Bool.not_eq_false] at hc); (try (exfalso; omega))))) | refine awp_seq_block ?_ | refine awp_block ?_ | refine awp_seq_skip ?_ | refine awp_seq_ret ?_ | refine awp_seq_exit ?_ | refine awp_skip ?_ | refine awp_exit ?_ | refine awp_ret ?_ | refine seqK_n ?_ | refine seqK_e ?_ | refine seqK_r ?_ | refine blkK_n ?_ | refine blkK_e ?_ | refine blkK_o rfl ?_ | refine blkK_r ?_ | refine loopK_e ?_ | refine loopK_r ?_ | refine retQ_E (by (simp (disch := omega) only [go_sem, Nat.reduceBEq, Nat.reduceBeqDiff, Nat.reduceEqDiff, ↓reduceIte, reduceCtorEq, Nat.reduceAdd, Nat.reduceMul, Nat.reduceLeDiff, Nat.reduceLT, Int.reduceLT, Int.reduceLE, Int.reduceEq, s0, s5, s7, s8, s24, s25, sH0, sH1, snx, cellsG_take, cellsG_splice, cellsG_getS, cellsF_get]); rfl) rfl ?_ | (refine hK _ ?_; clear hK K) | (refine stepG_split (fun hb => ?_) (fun hb => ?_) <;> (have hb2 := hb; try simp only [decide_eq_true_eq, decide_eq_false_iff_not, Classical.not_not, beq_iff_eq, beq_eq_false_iff_ne, bne_iff_ne, ne_eq, Bool.not_eq_true', Bool.not_eq_false', Bool.and_eq_true, Bool.or_eq_true, Bool.and_eq_false_imp, Bool.or_eq_false_iff, Bool.not_eq_true, Bool.not_eq_false] at hb2) <;> ((first | have hb3 : (_ : Bool) = _ := hb2 | have hb3 := eq_false hb2 | have hb3 := eq_true hb2); (simp (disch := omega) only [go_sem, Nat.reduceBEq, Nat.reduceBeqDiff, Nat.reduceEqDiff, ↓reduceIte, reduceCtorEq, Nat.reduceAdd, Nat.reduceMul, Nat.reduceLeDiff, Nat.reduceLT, Int.reduceLT, Int.reduceLE, Int.reduceEq, hb, hb3, s0, s5, s7, s8, s24, s25, sH0, sH1, snx, cellsG_take, cellsG_splice, cellsG_getS, cellsF_get]); clear hb hb3; (try (exfalso; omega)))) | (exfalso; omega))
    · have h1 := startI_yes (d := d) (n := m) (p := p) (by assumption) (.inr (by assumption))
      (refine Exists.intro _ (And.intro ?_ ⟨p + 1, rfl, ?_⟩)); rotate_left; (simp (disch := omega) only [go_sem, Nat.reduceBEq, Nat.reduceBeqDiff, Nat.reduceEqDiff, ↓reduceIte, reduceCtorEq, Nat.reduceAdd, Nat.reduceMul, Nat.reduceLeDiff, Nat.reduceLT, Int.reduceLT, Int.reduceLE, Int.reduceEq, s0, s5, s7, s8, s24, s25, sH0, sH1, snx, true_and, and_true, and_self, Int.natCast_add, Int.natCast_one, Int.natCast_zero, List.flatMap_append, List.flatMap_cons, List.flatMap_nil, List.map_append, List.map_cons, List.map_nil, List.append_nil, List.cons_append, List.nil_append, h1]); rotate_left
      · omega
      · omega
    · have h1 := startI_no (d := d) (n := m) (p := p) (by rintro ⟨_, h | h⟩ <;> contradiction)
      (refine Exists.intro _ (And.intro ?_ ⟨p + 1, rfl, ?_⟩)); rotate_left; (simp (disch := omega) only [go_sem, Nat.reduceBEq, Nat.reduceBeqDiff, Nat.reduceEqDiff, ↓reduceIte, reduceCtorEq, Nat.reduceAdd, Nat.reduceMul, Nat.reduceLeDiff, Nat.reduceLT, Int.reduceLT, Int.reduceLE, Int.reduceEq, s0, s5, s7, s8, s24, s25, sH0, sH1, snx, true_and, and_true, and_self, Int.natCast_add, Int.natCast_one, Int.natCast_zero, List.flatMap_append, List.flatMap_cons, List.flatMap_nil, List.map_append, List.map_cons, List.map_nil, List.append_nil, List.cons_append, List.nil_append, h1]); rotate_left
      · omega
      · omega
    · have h1 := startI_yes (d := d) (n := m) (p := p) (by assumption) (.inl (by assumption))
      (refine Exists.intro _ (And.intro ?_ ⟨p + 1, rfl, ?_⟩)); rotate_left; (simp (disch := omega) only [go_sem, Nat.reduceBEq, Nat.reduceBeqDiff, Nat.reduceEqDiff, ↓reduceIte, reduceCtorEq, Nat.reduceAdd, Nat.reduceMul, Nat.reduceLeDiff, Nat.reduceLT, Int.reduceLT, Int.reduceLE, Int.reduceEq, s0, s5, s7, s8, s24, s25, sH0, sH1, snx, true_and, and_true, and_self, Int.natCast_add, Int.natCast_one, Int.natCast_zero, List.flatMap_append, List.flatMap_cons, List.flatMap_nil, List.map_append, List.map_cons, List.map_nil, List.append_nil, List.cons_append, List.nil_append, h1]); rotate_left
      · omega
      · omega
    · have h1 := startI_no (d := d) (n := m) (p := p) (by rintro ⟨h, _⟩; contradiction)
      (refine Exists.intro _ (And.intro ?_ ⟨p + 1, rfl, ?_⟩)); rotate_left; (simp (disch := omega) only [go_sem, Nat.reduceBEq, Nat.reduceBeqDiff, Nat.reduceEqDiff, ↓reduceIte, reduceCtorEq, Nat.reduceAdd, Nat.reduceMul, Nat.reduceLeDiff, Nat.reduceLT, Int.reduceLT, Int.reduceLE, Int.reduceEq, s0, s5, s7, s8, s24, s25, sH0, sH1, snx, true_and, and_true, and_self, Int.natCast_add, Int.natCast_one, Int.natCast_zero, List.flatMap_append, List.flatMap_cons, List.flatMap_nil, List.map_append, List.map_cons, List.map_nil, List.append_nil, List.cons_append, List.nil_append, h1]); rotate_left
      · omega
      · omega
    · have h1 : p = m := by omega
      subst h1
      rw [if_pos (by assumption)]
      exact fin_pure rfl (Le.nil 1)
    · have h1 : p = m := by omega
      subst h1
      rw [if_neg (by assumption)]
      obtain ⟨s, hs⟩ : ∃ s : Nat, startI d p p = s := ⟨(startI d p p).toNat, by omega⟩
      rw [hs] at s8 hsb ⊢
      simp only [Int.toNat_natCast]
      have hsp : s < p := by omega
      have hds := hok.2 (s * 16 + s)
      skip
      (refine awp_loop' (fun mz st => ∃ (x : Int) (out : List Nat), mz = x.toNat ∧ st.t 0 = .int .i64 p ∧ st.t 5 = .ptr 0 0 ∧ st.t 7 = .ptr 1 0 ∧ st.t 8 = .int .i64 s ∧ st.t 10 = .osl 2 out.length ∧ st.t 11 = .int .i64 x ∧ st.H 0 = some (.box 51 (cellsG p g)) ∧ st.H 1 = some (.box 57 (cellsF d)) ∧ st.H 2 = some (.row 3 out.length (out.map fun x => .int .i64 (x : Nat))) ∧ (x ≤ 31) ∧ (1 ≤ out.length) ∧ (∀ y ∈ out, y < 16) ∧ (walkC g d p s (d.getD (s * 16 + s) 0 - 1).toNat [s] = walkC g d p s x.toNat out) ∧ (out.length ≤ 100 - x.toNat)) ?_ ?_); rotate_left; (rintro mz st ⟨x, out, rfl, u0, u5, u7, u8, u10, u11, uH0, uH1, uH2, up0, up1, up2, up3, up4⟩); rotate_left
      · (refine ⟨_, d.getD (s * 16 + s) 0 - 1, [s], rfl, ?_⟩); (simp (disch := omega) only [go_sem, Nat.reduceBEq, Nat.reduceBeqDiff, Nat.reduceEqDiff, ↓reduceIte, reduceCtorEq, Nat.reduceAdd, Nat.reduceMul, Nat.reduceLeDiff, Nat.reduceLT, Int.reduceLT, Int.reduceLE, Int.reduceEq, s0, s5, s7, s8, s24, s25, sH0, sH1, snx, true_and, and_true, and_self, Int.natCast_add, Int.natCast_one, Int.natCast_zero, List.flatMap_nil, List.map_nil, List.append_nil, List.nil_append])
        exact ⟨by omega, by simp; omega, by omega⟩
      have hlast : out[((out.length : Int) - 1).toNat]? = some (out.getLastD 0) := by
        have : ((out.length : Int) - 1).toNat = out.length - 1 := by omega
        rw [this, ← List.getLast?_eq_getElem?]
        cases out with
        | nil => simp at up1
        | cons a l => simp [List.getLast?_cons]
      have hlm : out.getLastD 0 < 16 := by
        refine up2 _ ?_
        exact List.mem_of_getElem? hlast
      repeat' (first | refine awp_assoc ?_ | ((first | refine awp_seq_reg fun K hK => ?_ | refine awp_seq_draw (by decide +kernel) fun K hK => ?_ | refine awp_reg' fun K hK => ?_ | refine awp_draw' (by decide +kernel) fun K hK => ?_); (simp (disch := omega) only [go_sem, Nat.reduceBEq, Nat.reduceBeqDiff, Nat.reduceEqDiff, ↓reduceIte, reduceCtorEq, Nat.reduceAdd, Nat.reduceMul, Nat.reduceLeDiff, Nat.reduceLT, Int.reduceLT, Int.reduceLE, Int.reduceEq, u0, u5, u7, u8, u10, u11, uH0, uH1, uH2, cellsG_take, cellsG_splice, cellsG_getS, cellsF_get, hlast])) | ((first | refine awp_seq_cond _ rfl (fun hc => ?_) (fun hc => ?_) | refine awp_cond _ rfl (fun hc => ?_) (fun hc => ?_)) <;> (first | (cases hc; done) | ((try simp only [decide_eq_true_eq, decide_eq_false_iff_not, Classical.not_not, beq_iff_eq, beq_eq_false_iff_ne, bne_iff_ne, ne_eq, Bool.not_eq_true', Bool.not_eq_false', Bool.and_eq_true, Bool.or_eq_true, Bool.and_eq_false_imp, Bool.or_eq_false_iff, Bool.not_eq_true, Bool.not_eq_false] at hc); (try (exfalso; omega))))) | refine awp_seq_block ?_ | refine awp_block ?_ | refine awp_seq_skip ?_ | refine awp_seq_ret ?_ | refine awp_seq_exit ?_ | refine awp_skip ?_ | refine awp_exit ?_ | refine awp_ret ?_ | refine seqK_n ?_ | refine seqK_e ?_ | refine seqK_r ?_ | refine blkK_n ?_ | refine blkK_e ?_ | refine blkK_o rfl ?_ | refine blkK_r ?_ | refine loopK_e ?_ | refine loopK_r ?_ | refine retQ_E (by (simp (disch := omega) only [go_sem, Nat.reduceBEq, Nat.reduceBeqDiff, Nat.reduceEqDiff, ↓reduceIte, reduceCtorEq, Nat.reduceAdd, Nat.reduceMul, Nat.reduceLeDiff, Nat.reduceLT, Int.reduceLT, Int.reduceLE, Int.reduceEq, u0, u5, u7, u8, u10, u11, uH0, uH1, uH2, cellsG_take, cellsG_splice, cellsG_getS, cellsF_get, hlast]); rfl) rfl ?_ | (refine hK _ ?_; clear hK K) | (refine stepG_split (fun hb => ?_) (fun hb => ?_) <;> (have hb2 := hb; try simp only [decide_eq_true_eq, decide_eq_false_iff_not, Classical.not_not, beq_iff_eq, beq_eq_false_iff_ne, bne_iff_ne, ne_eq, Bool.not_eq_true', Bool.not_eq_false', Bool.and_eq_true, Bool.or_eq_true, Bool.and_eq_false_imp, Bool.or_eq_false_iff, Bool.not_eq_true, Bool.not_eq_false] at hb2) <;> ((first | have hb3 : (_ : Bool) = _ := hb2 | have hb3 := eq_false hb2 | have hb3 := eq_true hb2); (simp (disch := omega) only [go_sem, Nat.reduceBEq, Nat.reduceBeqDiff, Nat.reduceEqDiff, ↓reduceIte, reduceCtorEq, Nat.reduceAdd, Nat.reduceMul, Nat.reduceLeDiff, Nat.reduceLT, Int.reduceLT, Int.reduceLE, Int.reduceEq, hb, hb3, u0, u5, u7, u8, u10, u11, uH0, uH1, uH2, cellsG_take, cellsG_splice, cellsG_getS, cellsF_get, hlast]); clear hb hb3; (try (exfalso; omega)))) | (exfalso; omega))
      · generalize hy : out.getLastD 0 = y at *
        (refine awp_loop' (fun mz st => ∃ (q : _), mz = p - q ∧ st.t 0 = .int .i64 p ∧ st.t 5 = .ptr 0 0 ∧ st.t 7 = .ptr 1 0 ∧ st.t 8 = .int .i64 s ∧ st.t 10 = .osl 2 out.length ∧ st.t 11 = .int .i64 x ∧ st.t 12 = .int .i64 y ∧ st.t 74 = .int .i64 p ∧ st.t 75 = .int .i64 q ∧ st.H 0 = some (.box 51 (cellsG p g)) ∧ st.H 1 = some (.box 57 (cellsF d)) ∧ st.H 2 = some (.row 3 out.length (out.map fun x => .int .i64 (x : Nat))) ∧ (q ≤ p) ∧ (∀ r, r < q → onC g d s y x r = false)) ?_ ?_); rotate_left; (rintro mz st ⟨q, rfl, w0, w5, w7, w8, w10, w11, w12, w74, w75, wH0, wH1, wH2, wp0, wp1⟩); rotate_left
        · (refine ⟨_, 0, rfl, ?_⟩); (simp (disch := omega) only [go_sem, Nat.reduceBEq, Nat.reduceBeqDiff, Nat.reduceEqDiff, ↓reduceIte, reduceCtorEq, Nat.reduceAdd, Nat.reduceMul, Nat.reduceLeDiff, Nat.reduceLT, Int.reduceLT, Int.reduceLE, Int.reduceEq, u0, u5, u7, u8, u10, u11, uH0, uH1, uH2, true_and, and_true, and_self, Int.natCast_add, Int.natCast_one, Int.natCast_zero, List.flatMap_nil, List.map_nil, List.append_nil, List.nil_append])
          exact fun r hr => by omega
        repeat' (first | refine awp_assoc ?_ | ((first | refine awp_seq_reg fun K hK => ?_ | refine awp_seq_draw (by decide +kernel) fun K hK => ?_ | refine awp_reg' fun K hK => ?_ | refine awp_draw' (by decide +kernel) fun K hK => ?_); (simp (disch := omega) only [go_sem, Nat.reduceBEq, Nat.reduceBeqDiff, Nat.reduceEqDiff, ↓reduceIte, reduceCtorEq, Nat.reduceAdd, Nat.reduceMul, Nat.reduceLeDiff, Nat.reduceLT, Int.reduceLT, Int.reduceLE, Int.reduceEq, w0, w5, w7, w8, w10, w11, w12, w74, w75, wH0, wH1, wH2, cellsG_take, cellsG_splice, cellsG_getS, cellsF_get, shrU, bits_and1, bit_one])) | ((first | refine awp_seq_cond _ rfl (fun hc => ?_) (fun hc => ?_) | refine awp_cond _ rfl (fun hc => ?_) (fun hc => ?_)) <;> (first | (cases hc; done) | ((try simp only [decide_eq_true_eq, decide_eq_false_iff_not, Classical.not_not, beq_iff_eq, beq_eq_false_iff_ne, bne_iff_ne, ne_eq, Bool.not_eq_true', Bool.not_eq_false', Bool.and_eq_true, Bool.or_eq_true, Bool.and_eq_false_imp, Bool.or_eq_false_iff, Bool.not_eq_true, Bool.not_eq_false] at hc); (try (exfalso; omega))))) | refine awp_seq_block ?_ | refine awp_block ?_ | refine awp_seq_skip ?_ | refine awp_seq_ret ?_ | refine awp_seq_exit ?_ | refine awp_skip ?_ | refine awp_exit ?_ | refine awp_ret ?_ | refine seqK_n ?_ | refine seqK_e ?_ | refine seqK_r ?_ | refine blkK_n ?_ | refine blkK_e ?_ | refine blkK_o rfl ?_ | refine blkK_r ?_ | refine loopK_e ?_ | refine loopK_r ?_ | refine retQ_E (by (simp (disch := omega) only [go_sem, Nat.reduceBEq, Nat.reduceBeqDiff, Nat.reduceEqDiff, ↓reduceIte, reduceCtorEq, Nat.reduceAdd, Nat.reduceMul, Nat.reduceLeDiff, Nat.reduceLT, Int.reduceLT, Int.reduceLE, Int.reduceEq, w0, w5, w7, w8, w10, w11, w12, w74, w75, wH0, wH1, wH2, cellsG_take, cellsG_splice, cellsG_getS, cellsF_get, shrU, bits_and1, bit_one]); rfl) rfl ?_ | (refine hK _ ?_; clear hK K) | (refine stepG_split (fun hb => ?_) (fun hb => ?_) <;> (have hb2 := hb; try simp only [decide_eq_true_eq, decide_eq_false_iff_not, Classical.not_not, beq_iff_eq, beq_eq_false_iff_ne, bne_iff_ne, ne_eq, Bool.not_eq_true', Bool.not_eq_false', Bool.and_eq_true, Bool.or_eq_true, Bool.and_eq_false_imp, Bool.or_eq_false_iff, Bool.not_eq_true, Bool.not_eq_false] at hb2) <;> ((first | have hb3 : (_ : Bool) = _ := hb2 | have hb3 := eq_false hb2 | have hb3 := eq_true hb2); (simp (disch := omega) only [go_sem, Nat.reduceBEq, Nat.reduceBeqDiff, Nat.reduceEqDiff, ↓reduceIte, reduceCtorEq, Nat.reduceAdd, Nat.reduceMul, Nat.reduceLeDiff, Nat.reduceLT, Int.reduceLT, Int.reduceLE, Int.reduceEq, hb, hb3, w0, w5, w7, w8, w10, w11, w12, w74, w75, wH0, wH1, wH2, cellsG_take, cellsG_splice, cellsG_getS, cellsF_get, shrU, bits_and1, bit_one]); clear hb hb3; (try (exfalso; omega)))) | (exfalso; omega))
        · have hk : x.toNat = (x - 1).toNat + 1 := by omega
          have hx : (((x - 1).toNat + 1 : Nat) : Int) = x := by omega
          have hf := find_some (f := onC g d s y x) (p := q) (n := p) (by omega) (by simp only [onC]; rw [‹(g.getD y 0).testBit q = true›, ‹d.getD (q * 16 + s) 0 = x›]; simp) wp1
          rw [hk] at up3
          simp only [walkC, hx, hy, hf] at up3
          (refine Exists.intro _ (And.intro ?_ ⟨x - 1, out ++ [q], rfl, ?_⟩)); rotate_left; (simp (disch := omega) only [go_sem, Nat.reduceBEq, Nat.reduceBeqDiff, Nat.reduceEqDiff, ↓reduceIte, reduceCtorEq, Nat.reduceAdd, Nat.reduceMul, Nat.reduceLeDiff, Nat.reduceLT, Int.reduceLT, Int.reduceLE, Int.reduceEq, w0, w5, w7, w8, w10, w11, w12, w74, w75, wH0, wH1, wH2, true_and, and_true, and_self, Int.natCast_add, Int.natCast_one, Int.natCast_zero, List.flatMap_append, List.flatMap_cons, List.flatMap_nil, List.map_append, List.map_cons, List.map_nil, List.append_nil, List.cons_append, List.nil_append]); rotate_left
          · omega
          · refine ⟨by omega, fun z hz => ?_, up3, by omega⟩
            rcases List.mem_append.1 hz with h | h
            · exact up2 z h
            · simp at h; omega
        · (refine Exists.intro _ (And.intro ?_ ⟨q + 1, rfl, ?_⟩)); rotate_left; (simp (disch := omega) only [go_sem, Nat.reduceBEq, Nat.reduceBeqDiff, Nat.reduceEqDiff, ↓reduceIte, reduceCtorEq, Nat.reduceAdd, Nat.reduceMul, Nat.reduceLeDiff, Nat.reduceLT, Int.reduceLT, Int.reduceLE, Int.reduceEq, w0, w5, w7, w8, w10, w11, w12, w74, w75, wH0, wH1, wH2, true_and, and_true, and_self, Int.natCast_add, Int.natCast_one, Int.natCast_zero, List.flatMap_append, List.flatMap_cons, List.flatMap_nil, List.map_append, List.map_cons, List.map_nil, List.append_nil, List.cons_append, List.nil_append]); rotate_left
          · omega
          · refine ⟨by omega, fun r hr => ?_⟩
            by_cases hrq : r = q
            · subst hrq; simp only [onC]; rw [decide_eq_false (by assumption), Bool.and_false]
            · exact wp1 r (by omega)
        · (refine Exists.intro _ (And.intro ?_ ⟨q + 1, rfl, ?_⟩)); rotate_left; (simp (disch := omega) only [go_sem, Nat.reduceBEq, Nat.reduceBeqDiff, Nat.reduceEqDiff, ↓reduceIte, reduceCtorEq, Nat.reduceAdd, Nat.reduceMul, Nat.reduceLeDiff, Nat.reduceLT, Int.reduceLT, Int.reduceLE, Int.reduceEq, w0, w5, w7, w8, w10, w11, w12, w74, w75, wH0, wH1, wH2, true_and, and_true, and_self, Int.natCast_add, Int.natCast_one, Int.natCast_zero, List.flatMap_append, List.flatMap_cons, List.flatMap_nil, List.map_append, List.map_cons, List.map_nil, List.append_nil, List.cons_append, List.nil_append]); rotate_left
          · omega
          · refine ⟨by omega, fun r hr => ?_⟩
            by_cases hrq : r = q
            · subst hrq; simp only [onC]; rw [‹(g.getD y 0).testBit r = false›, Bool.false_and]
            · exact wp1 r (by omega)
        · have hk : x.toNat = (x - 1).toNat + 1 := by omega
          have hx : (((x - 1).toNat + 1 : Nat) : Int) = x := by omega
          have hf := find_none (f := onC g d s y x) (n := p) (fun r hr => wp1 r (by omega))
          rw [hk] at up3
          simp only [walkC, hx, hy, hf] at up3
          (refine Exists.intro _ (And.intro ?_ ⟨x - 1, out, rfl, ?_⟩)); rotate_left; (simp (disch := omega) only [go_sem, Nat.reduceBEq, Nat.reduceBeqDiff, Nat.reduceEqDiff, ↓reduceIte, reduceCtorEq, Nat.reduceAdd, Nat.reduceMul, Nat.reduceLeDiff, Nat.reduceLT, Int.reduceLT, Int.reduceLE, Int.reduceEq, w0, w5, w7, w8, w10, w11, w12, w74, w75, wH0, wH1, wH2, true_and, and_true, and_self, Int.natCast_add, Int.natCast_one, Int.natCast_zero, List.flatMap_append, List.flatMap_cons, List.flatMap_nil, List.map_append, List.map_cons, List.map_nil, List.append_nil, List.cons_append, List.nil_append]); rotate_left
          · omega
          · exact ⟨by omega, up1, up2, up3, by omega⟩
      · have hk : x.toNat = 0 := by omega
        rw [hk] at up3
        simp only [walkC] at up3
        rw [up3]
        exact fin_of (sealD_row 1 uH2 isAggT3 sizeT3 (by simp) (pureL_map (fun _ => rfl) _))
  · have hR : cycleR n l = [] := by unfold cycleR; rw [if_pos hw]
    skip
    repeat' (first | refine awp_assoc ?_ | ((first | refine awp_seq_reg fun K hK => ?_ | refine awp_seq_draw (by decide +kernel) fun K hK => ?_ | refine awp_reg' fun K hK => ?_ | refine awp_draw' (by decide +kernel) fun K hK => ?_ | refine callW_pc (pc_made n l hl) ?_ | refine callD_pc (pc_made n l hl) ?_); (simp (disch := omega) only [go_sem, Nat.reduceBEq, Nat.reduceBeqDiff, Nat.reduceEqDiff, ↓reduceIte, reduceCtorEq, Nat.reduceAdd, Nat.reduceMul, Nat.reduceLeDiff, Nat.reduceLT, Int.reduceLT, Int.reduceLE, Int.reduceEq, encPs, cellsG_take, cellsG_splice, cellsG_getS])) | ((first | refine awp_seq_cond _ rfl (fun hc => ?_) (fun hc => ?_) | refine awp_cond _ rfl (fun hc => ?_) (fun hc => ?_)) <;> (first | (cases hc; done) | ((try simp only [decide_eq_true_eq, decide_eq_false_iff_not, Classical.not_not, beq_iff_eq, beq_eq_false_iff_ne, bne_iff_ne, ne_eq, Bool.not_eq_true', Bool.not_eq_false', Bool.and_eq_true, Bool.or_eq_true, Bool.and_eq_false_imp, Bool.or_eq_false_iff, Bool.not_eq_true, Bool.not_eq_false] at hc); (try (exfalso; omega))))) | refine awp_seq_block ?_ | refine awp_block ?_ | refine awp_seq_skip ?_ | refine awp_seq_ret ?_ | refine awp_seq_exit ?_ | refine awp_skip ?_ | refine awp_exit ?_ | refine awp_ret ?_ | refine seqK_n ?_ | refine seqK_e ?_ | refine seqK_r ?_ | refine blkK_n ?_ | refine blkK_e ?_ | refine blkK_o rfl ?_ | refine blkK_r ?_ | refine loopK_e ?_ | refine loopK_r ?_ | refine retQ_E (by (simp (disch := omega) only [go_sem, Nat.reduceBEq, Nat.reduceBeqDiff, Nat.reduceEqDiff, ↓reduceIte, reduceCtorEq, Nat.reduceAdd, Nat.reduceMul, Nat.reduceLeDiff, Nat.reduceLT, Int.reduceLT, Int.reduceLE, Int.reduceEq, encPs, cellsG_take, cellsG_splice, cellsG_getS]); rfl) rfl ?_ | (refine hK _ ?_; clear hK K) | (refine stepG_split (fun hb => ?_) (fun hb => ?_) <;> (have hb2 := hb; try simp only [decide_eq_true_eq, decide_eq_false_iff_not, Classical.not_not, beq_iff_eq, beq_eq_false_iff_ne, bne_iff_ne, ne_eq, Bool.not_eq_true', Bool.not_eq_false', Bool.and_eq_true, Bool.or_eq_true, Bool.and_eq_false_imp, Bool.or_eq_false_iff, Bool.not_eq_true, Bool.not_eq_false] at hb2) <;> ((first | have hb3 : (_ : Bool) = _ := hb2 | have hb3 := eq_false hb2 | have hb3 := eq_true hb2); (simp (disch := omega) only [go_sem, Nat.reduceBEq, Nat.reduceBeqDiff, Nat.reduceEqDiff, ↓reduceIte, reduceCtorEq, Nat.reduceAdd, Nat.reduceMul, Nat.reduceLeDiff, Nat.reduceLT, Int.reduceLT, Int.reduceLE, Int.reduceEq, hb, hb3, encPs, cellsG_take, cellsG_splice, cellsG_getS]); clear hb hb3; (try (exfalso; omega)))) | (exfalso; omega))
    rw [hR]
    exact fin_pure rfl (Le.nil 1)
end Go.Proofs.Ytjibdljdkgedcaa
