/-
  The walk of far. No condition but bounds.
-/
import Derived.Test.YtjibdljdkgedcaaMade
namespace Go.Proofs.Ytjibdljdkgedcaa
open Abs Facts Topo
attribute [local irreducible] awp
namespace Topo
def dzero : List Int := List.replicate 256 0
def initB (g : List Nat) (a : Nat) : Nat → List Int → List Int
  | 0, d => d
  | b + 1, d => (initB g a b d).set (a * 16 + b) (if (g.getD a 0).testBit b = true then 1 else 32)
def initA (g : List Nat) (n : Nat) : Nat → List Int → List Int
  | 0, d => d
  | a + 1, d => initB g a n (initA g n a d)
def relB (k a : Nat) : Nat → List Int → List Int
  | 0, d => d
  | b + 1, d => (relB k a b d).set (a * 16 + b) (min ((relB k a b d).getD (a * 16 + b) 0) ((relB k a b d).getD (a * 16 + k) 0 + (relB k a b d).getD (k * 16 + b) 0))
def relA (n k : Nat) : Nat → List Int → List Int
  | 0, d => d
  | a + 1, d => relB k a n (relA n k a d)
def relK (n : Nat) : Nat → List Int → List Int
  | 0, d => d
  | k + 1, d => relA n k n (relK n k d)
def farL (g : List Nat) (n : Nat) : List Int := relK n n (initA g n n dzero)
/-- What stands in a table of distances. -/
def okD (d : List Int) : Prop := d.length = 256 ∧ ∀ i, 0 ≤ d.getD i 0 ∧ d.getD i 0 ≤ 32
theorem okD_zero : okD dzero := by
  refine ⟨List.length_replicate, fun i => ?_⟩
  unfold dzero
  rw [List.getD_eq_getElem?_getD, List.getElem?_replicate]
  split <;> simp
theorem okD_set {d : List Int} (h : okD d) (i : Nat) {v : Int} (h0 : 0 ≤ v) (h1 : v ≤ 32) : okD (d.set i v) := by
  refine ⟨by simp [h.1], fun j => ?_⟩
  rw [List.getD_eq_getElem?_getD, List.getElem?_set]
  split
  · split
    · exact ⟨h0, h1⟩
    · simp
  · rw [← List.getD_eq_getElem?_getD]; exact h.2 j
theorem okD_initB (g : List Nat) (a : Nat) {d : List Int} (h : okD d) : ∀ b, okD (initB g a b d)
  | 0 => h
  | b + 1 => okD_set (okD_initB g a h b) _ (by split <;> decide) (by split <;> decide)
theorem okD_initA (g : List Nat) (n : Nat) {d : List Int} (h : okD d) : ∀ a, okD (initA g n a d)
  | 0 => h
  | a + 1 => okD_initB g a (okD_initA g n h a) n
theorem okD_relB (k a : Nat) {d : List Int} (h : okD d) : ∀ b, okD (relB k a b d)
  | 0 => h
  | b + 1 => by
    have ih := okD_relB k a h b
    have h1 := ih.2 (a * 16 + b)
    have h2 := ih.2 (a * 16 + k)
    have h3 := ih.2 (k * 16 + b)
    exact okD_set ih _ (by omega) (by omega)
theorem okD_relA (n k : Nat) {d : List Int} (h : okD d) : ∀ a, okD (relA n k a d)
  | 0 => h
  | a + 1 => okD_relB k a (okD_relA n k h a) n
theorem okD_relK (n : Nat) {d : List Int} (h : okD d) : ∀ k, okD (relK n k d)
  | 0 => h
  | k + 1 => okD_relA n k (okD_relK n h k) n
end Topo
namespace Abs
def cellsF (d : List Int) : List D := d.map fun x => .int .i64 x
@[go_sem] theorem cellsF_length (d : List Int) : (cellsF d).length = d.length := by simp [cellsF]
@[go_sem] theorem cellsF_set (d : List Int) (i : Nat) (v : Int) : (cellsF d).set i (.int .i64 v) = cellsF (d.set i v) := by simp [cellsF, List.map_set]
theorem cellsF_get {d : List Int} {i : Nat} (h : i < d.length) : (cellsF d)[i]? = some (.int .i64 (d.getD i 0)) := by simp [cellsF, h]
theorem cellsF_take {d : List Int} (h : d.length = 256) : List.take 256 (cellsF d) = cellsF d := List.take_of_length_le (by rw [cellsF_length, h]; decide)
theorem cellsF_splice {d e : List Int} (h : e.length = d.length) : splice (cellsF d) 0 (cellsF e) = cellsF e := splice_full _ _ (by rw [cellsF_length, cellsF_length, h])
theorem pure_cellsF (d : List Int) : pureD.pureL (cellsF d) = true := pureL_map (fun _ => rfl) d
end Abs
namespace Facts
@[go_sem] theorem zeroD : zeroT Try.prog 57 = some (cellsF dzero) := by kernel_rfl
end Facts
set_option maxRecDepth 100000 in
set_option maxHeartbeats 8000000 in
theorem pc_far (n : Nat) (hn : n ≤ 16) (g : List Nat) (hg : g.length = 16) : PC Try.prog 28 [.agg (cellsG n g)] (.agg (cellsF (farL g n))) := by
  refine PC_intro 3 (by simp only [pureD.pureL, pureD, pure_cellsG, Bool.and_self]) (by simp only [pureD, pure_cellsF]) (AC_intro [] Try.func28 rfl (by decide +kernel) mixed (by decide +kernel) (by simp [Try.ntmps28]) ?_)
  show awp _ _ (Code.seq _ _) _ _
  rw [show Try.f28.results.toList = [.cell 2 57] from rfl]
  repeat' (first | refine awp_assoc ?_ | ((first | refine awp_seq_reg fun K hK => ?_ | refine awp_seq_draw (by decide +kernel) fun K hK => ?_ | refine awp_reg' fun K hK => ?_ | refine awp_draw' (by decide +kernel) fun K hK => ?_); (simp (disch := omega) only [go_sem, Nat.reduceBEq, reduceCtorEq, Nat.reduceAdd, Nat.reduceLeDiff])) | ((first | refine awp_seq_cond _ rfl (fun hc => ?_) (fun hc => ?_) | refine awp_cond _ rfl (fun hc => ?_) (fun hc => ?_)) <;> (first | (cases hc; done) | ((try simp only [decide_eq_true_eq, decide_eq_false_iff_not, Classical.not_not, beq_iff_eq, beq_eq_false_iff_ne, bne_iff_ne, ne_eq, Bool.not_eq_true', Bool.not_eq_false', Bool.and_eq_true, Bool.or_eq_true, Bool.and_eq_false_imp, Bool.or_eq_false_iff, Bool.not_eq_true, Bool.not_eq_false] at hc); (try (exfalso; omega))))) | refine awp_seq_block ?_ | refine awp_block ?_ | refine awp_seq_skip ?_ | refine awp_seq_ret ?_ | refine awp_seq_exit ?_ | refine awp_skip ?_ | refine awp_exit ?_ | refine awp_ret ?_ | refine seqK_n ?_ | refine seqK_e ?_ | refine seqK_r ?_ | refine blkK_n ?_ | refine blkK_e ?_ | refine blkK_o rfl ?_ | refine blkK_r ?_ | refine loopK_e ?_ | refine loopK_r ?_ | (first | refine retQ_K (by (simp (disch := omega) only [go_sem]); rfl) ?_ | refine retQ_K' (by (simp (disch := omega) only [go_sem]); rfl) ?_) | (refine hK _ ?_; clear hK K) | (refine stepG_split (fun hb => ?_) (fun hb => ?_) <;> (have hb2 := hb; try simp only [decide_eq_true_eq, decide_eq_false_iff_not, Classical.not_not, beq_iff_eq, beq_eq_false_iff_ne, bne_iff_ne, ne_eq, Bool.not_eq_true', Bool.not_eq_false', Bool.and_eq_true, Bool.or_eq_true, Bool.and_eq_false_imp, Bool.or_eq_false_iff, Bool.not_eq_true, Bool.not_eq_false] at hb2) <;> ((first | have hb3 : (_ : Bool) = _ := hb2 | have hb3 := eq_false hb2 | have hb3 := eq_true hb2); (simp (disch := omega) only [go_sem, Nat.reduceBEq, Nat.reduceBeqDiff, Nat.reduceEqDiff, reduceIte, reduceCtorEq, Nat.reduceAdd, Nat.reduceMul, Nat.reduceLeDiff, Nat.reduceLT, Int.reduceLT, Int.reduceLE, Int.reduceEq, hb, hb3, cellsG_take, cellsG_splice, cellsG_getS]); clear hb hb3; (try (exfalso; omega)))) | (exfalso; omega))
  (refine awp_loop' (fun mz st => ∃ (a : _), mz = n - a ∧ st.t 1 = .ptr 0 0 ∧ st.t 2 = .ptr 1 0 ∧ st.t 3 = .ptr 2 0 ∧ st.t 10 = .int .i64 n ∧ st.t 11 = .int .i64 a ∧ st.H 0 = some (.box 51 (cellsG n g)) ∧ st.H 1 = some (.box 57 (cellsF dzero)) ∧ st.H 2 = some (.box 57 (cellsF (initA g n a dzero))) ∧ (a ≤ n)) ?_ ?_); rotate_left; (rintro mz st ⟨a, rfl, s1, s2, s3, s10, s11, sH0, sH1, sH2, sp0⟩); rotate_left
  · (refine ⟨_, 0, rfl, ?_⟩); (simp (disch := omega) only [go_sem, Nat.reduceBEq, true_and, and_true, Int.natCast_zero])
    rfl
  repeat' (first | refine awp_assoc ?_ | ((first | refine awp_seq_reg fun K hK => ?_ | refine awp_seq_draw (by decide +kernel) fun K hK => ?_ | refine awp_reg' fun K hK => ?_ | refine awp_draw' (by decide +kernel) fun K hK => ?_); (simp (disch := omega) only [go_sem, Nat.reduceBEq, reduceCtorEq, Nat.reduceAdd, Nat.reduceLeDiff, s1, s10, s11, sH0])) | ((first | refine awp_seq_cond _ rfl (fun hc => ?_) (fun hc => ?_) | refine awp_cond _ rfl (fun hc => ?_) (fun hc => ?_)) <;> (first | (cases hc; done) | ((try simp only [decide_eq_true_eq, decide_eq_false_iff_not] at hc); (try (exfalso; omega))))) | refine awp_seq_block ?_ | refine awp_block ?_ | refine awp_seq_skip ?_ | refine awp_seq_ret ?_ | refine awp_seq_exit ?_ | refine awp_skip ?_ | refine awp_exit ?_ | refine awp_ret ?_ | refine seqK_n ?_ | refine seqK_e ?_ | refine seqK_r ?_ | refine blkK_n ?_ | refine blkK_e ?_ | refine blkK_o rfl ?_ | refine blkK_r ?_ | refine loopK_e ?_ | refine loopK_r ?_ | (first | refine retQ_K (by (simp (disch := omega) only [go_sem]); rfl) ?_ | refine retQ_K' (by (simp (disch := omega) only [go_sem]); rfl) ?_) | (refine hK _ ?_; clear hK K) | (refine stepG_split (fun hb => ?_) (fun hb => ?_) <;> (have hb2 := hb; try simp only [decide_eq_true_eq, decide_eq_false_iff_not, Classical.not_not, beq_iff_eq, beq_eq_false_iff_ne, bne_iff_ne, ne_eq, Bool.not_eq_true', Bool.not_eq_false', Bool.and_eq_true, Bool.or_eq_true, Bool.and_eq_false_imp, Bool.or_eq_false_iff, Bool.not_eq_true, Bool.not_eq_false] at hb2) <;> ((first | have hb3 : (_ : Bool) = _ := hb2 | have hb3 := eq_false hb2 | have hb3 := eq_true hb2); (simp (disch := omega) only [go_sem, Nat.reduceBEq, Nat.reduceBeqDiff, Nat.reduceEqDiff, reduceIte, reduceCtorEq, Nat.reduceAdd, Nat.reduceMul, Nat.reduceLeDiff, Nat.reduceLT, Int.reduceLT, Int.reduceLE, Int.reduceEq, hb, hb3, s1, s2, s3, s10, s11, sH0, sH1, sH2, cellsG_take, cellsG_splice, cellsG_getS]); clear hb hb3; (try (exfalso; omega)))) | (exfalso; omega))
  · (refine awp_loop' (fun mz st => ∃ (b : _), mz = n - b ∧ st.t 1 = .ptr 0 0 ∧ st.t 2 = .ptr 1 0 ∧ st.t 3 = .ptr 2 0 ∧ st.t 4 = .int .i64 a ∧ st.t 10 = .int .i64 n ∧ st.t 11 = .int .i64 a ∧ st.t 15 = .int .i64 n ∧ st.t 16 = .int .i64 b ∧ st.H 0 = some (.box 51 (cellsG n g)) ∧ st.H 1 = some (.box 57 (cellsF dzero)) ∧ st.H 2 = some (.box 57 (cellsF (initB g a b (initA g n a dzero)))) ∧ (b ≤ n)) ?_ ?_); rotate_left; (rintro mz st ⟨b, rfl, p1, p2, p3, p4, p10, p11, p15, p16, pH0, pH1, pH2, pp0⟩); rotate_left
    · (refine ⟨_, 0, rfl, ?_⟩); (simp (disch := omega) only [go_sem, Nat.reduceBEq, s1, s2, s3, s10, s11, sH0, sH1, sH2, true_and, and_true, Int.natCast_zero])
      rfl
    have hd := (okD_initB g a (okD_initA g n okD_zero a) b).1
    repeat' (first | refine awp_assoc ?_ | ((first | refine awp_seq_reg fun K hK => ?_ | refine awp_seq_draw (by decide +kernel) fun K hK => ?_ | refine awp_reg' fun K hK => ?_ | refine awp_draw' (by decide +kernel) fun K hK => ?_); (simp (disch := omega) only [go_sem, Nat.reduceBEq, reduceCtorEq, Nat.reduceAdd, Nat.reduceLeDiff, Nat.reduceLT, p1, p3, p4, p11, p15, p16, pH0, pH2, cellsG_getS, List.set_set, shrU, bits_and1, bit_one])) | ((first | refine awp_seq_cond _ rfl (fun hc => ?_) (fun hc => ?_) | refine awp_cond _ rfl (fun hc => ?_) (fun hc => ?_)) <;> (first | (cases hc; done) | ((try simp only [decide_eq_true_eq, decide_eq_false_iff_not] at hc); (try (exfalso; omega))))) | refine awp_seq_block ?_ | refine awp_block ?_ | refine awp_seq_skip ?_ | refine awp_seq_ret ?_ | refine awp_seq_exit ?_ | refine awp_skip ?_ | refine awp_exit ?_ | refine awp_ret ?_ | refine seqK_n ?_ | refine seqK_e ?_ | refine seqK_r ?_ | refine blkK_n ?_ | refine blkK_e ?_ | refine blkK_o rfl ?_ | refine blkK_r ?_ | refine loopK_e ?_ | refine loopK_r ?_ | (first | refine retQ_K (by (simp (disch := omega) only [go_sem]); rfl) ?_ | refine retQ_K' (by (simp (disch := omega) only [go_sem]); rfl) ?_) | (refine hK _ ?_; clear hK K) | (refine stepG_split (fun hb => ?_) (fun hb => ?_) <;> (have hb2 := hb; try simp only [decide_eq_true_eq, decide_eq_false_iff_not, Classical.not_not, beq_iff_eq, beq_eq_false_iff_ne, bne_iff_ne, ne_eq, Bool.not_eq_true', Bool.not_eq_false', Bool.and_eq_true, Bool.or_eq_true, Bool.and_eq_false_imp, Bool.or_eq_false_iff, Bool.not_eq_true, Bool.not_eq_false] at hb2) <;> ((first | have hb3 : (_ : Bool) = _ := hb2 | have hb3 := eq_false hb2 | have hb3 := eq_true hb2); (simp (disch := omega) only [go_sem, Nat.reduceBEq, Nat.reduceBeqDiff, Nat.reduceEqDiff, reduceIte, reduceCtorEq, Nat.reduceAdd, Nat.reduceMul, Nat.reduceLeDiff, Nat.reduceLT, Int.reduceLT, Int.reduceLE, Int.reduceEq, hb, hb3, p1, p2, p3, p4, p10, p11, p15, p16, pH0, pH1, pH2, cellsG_take, cellsG_splice, cellsG_getS, cellsF_get, List.set_set, shrU, bits_and1, bit_one]); clear hb hb3; (try (exfalso; omega)))) | (exfalso; omega))
    · have h1 : initB g a (b + 1) (initA g n a dzero) = (initB g a b (initA g n a dzero)).set (a * 16 + b) 1 := by simp only [initB]; rw [if_pos (by assumption)]
      (refine Exists.intro _ (And.intro ?_ ⟨b + 1, rfl, ?_⟩)); rotate_left; (simp (disch := omega) only [go_sem, Nat.reduceBEq, p1, p2, p3, p4, p10, p11, p15, p16, pH0, pH1, pH2, true_and, Int.natCast_add, Int.natCast_one, h1]); rotate_left
      · omega
      · omega
    · have h1 : initB g a (b + 1) (initA g n a dzero) = (initB g a b (initA g n a dzero)).set (a * 16 + b) 32 := by simp only [initB]; rw [if_neg (by simp; assumption)]
      (refine Exists.intro _ (And.intro ?_ ⟨b + 1, rfl, ?_⟩)); rotate_left; (simp (disch := omega) only [go_sem, Nat.reduceBEq, p1, p2, p3, p4, p10, p11, p15, p16, pH0, pH1, pH2, true_and, Int.natCast_add, Int.natCast_one, h1]); rotate_left
      · omega
      · omega
    · have h1 : b = n := by omega
      subst h1
      (refine Exists.intro _ (And.intro ?_ ⟨a + 1, rfl, ?_⟩)); rotate_left; (simp (disch := omega) only [go_sem, Nat.reduceBEq, p1, p2, p3, p10, p11, pH0, pH1, pH2, true_and, Int.natCast_add, Int.natCast_one, initA]); rotate_left
      · omega
      · omega
  · have h1 : a = n := by omega
    subst h1
    skip
    (refine awp_loop' (fun mz st => ∃ (k : _), mz = a - k ∧ st.t 1 = .ptr 0 0 ∧ st.t 2 = .ptr 1 0 ∧ st.t 3 = .ptr 2 0 ∧ st.t 38 = .int .i64 a ∧ st.t 39 = .int .i64 k ∧ st.H 0 = some (.box 51 (cellsG a g)) ∧ st.H 1 = some (.box 57 (cellsF dzero)) ∧ st.H 2 = some (.box 57 (cellsF (relK a k (initA g a a dzero)))) ∧ (k ≤ a)) ?_ ?_); rotate_left; (rintro mz st ⟨k, rfl, u1, u2, u3, u38, u39, uH0, uH1, uH2, up0⟩); rotate_left
    · (refine ⟨_, 0, rfl, ?_⟩); (simp (disch := omega) only [go_sem, Nat.reduceBEq, s1, s2, s3, sH0, sH1, sH2, true_and, and_true, Int.natCast_zero])
      rfl
    have hD0 := okD_initA g a okD_zero a
    have hfar : farL g a = relK a a (initA g a a dzero) := rfl
    rw [hfar]
    clear hfar
    generalize initA g a a dzero = d0 at *
    have hl := (okD_relK a hD0 k).1
    have hz := okD_zero.1
    repeat' (first | refine awp_assoc ?_ | ((first | refine awp_seq_reg fun K hK => ?_ | refine awp_seq_draw (by decide +kernel) fun K hK => ?_ | refine awp_reg' fun K hK => ?_ | refine awp_draw' (by decide +kernel) fun K hK => ?_); (simp (disch := omega) only [go_sem, Nat.reduceBEq, reduceCtorEq, Nat.reduceAdd, Nat.reduceLeDiff, u1, u2, u3, u38, u39, uH0, uH1, uH2, cellsF_get, cellsF_splice, cellsF_take])) | ((first | refine awp_seq_cond _ rfl (fun hc => ?_) (fun hc => ?_) | refine awp_cond _ rfl (fun hc => ?_) (fun hc => ?_)) <;> (first | (cases hc; done) | ((try simp only [decide_eq_true_eq, decide_eq_false_iff_not] at hc); (try (exfalso; omega))))) | refine awp_seq_block ?_ | refine awp_block ?_ | refine awp_seq_skip ?_ | refine awp_seq_ret ?_ | refine awp_seq_exit ?_ | refine awp_skip ?_ | refine awp_exit ?_ | refine awp_ret ?_ | refine seqK_n ?_ | refine seqK_e ?_ | refine seqK_r ?_ | refine blkK_n ?_ | refine blkK_e ?_ | refine blkK_o rfl ?_ | refine blkK_r ?_ | refine loopK_e ?_ | refine loopK_r ?_ | (first | refine retQ_K (by (simp (disch := omega) only [go_sem, Nat.reduceBEq, u2, uH1, cellsF_get, cellsF_take]); rfl) ?_ | refine retQ_K' (by (simp (disch := omega) only [go_sem]); rfl) ?_) | (refine hK _ ?_; clear hK K) | (refine stepG_split (fun hb => ?_) (fun hb => ?_) <;> (have hb2 := hb; try simp only [decide_eq_true_eq, decide_eq_false_iff_not, Classical.not_not, beq_iff_eq, beq_eq_false_iff_ne, bne_iff_ne, ne_eq, Bool.not_eq_true', Bool.not_eq_false', Bool.and_eq_true, Bool.or_eq_true, Bool.and_eq_false_imp, Bool.or_eq_false_iff, Bool.not_eq_true, Bool.not_eq_false] at hb2) <;> ((first | have hb3 : (_ : Bool) = _ := hb2 | have hb3 := eq_false hb2 | have hb3 := eq_true hb2); (simp (disch := omega) only [go_sem, Nat.reduceBEq, Nat.reduceBeqDiff, Nat.reduceEqDiff, reduceIte, reduceCtorEq, Nat.reduceAdd, Nat.reduceMul, Nat.reduceLeDiff, Nat.reduceLT, Int.reduceLT, Int.reduceLE, Int.reduceEq, hb, hb3, u1, u2, u3, u38, u39, uH0, uH1, uH2, cellsG_take, cellsG_splice, cellsG_getS, cellsF_get, cellsF_splice, cellsF_take]); clear hb hb3; (try (exfalso; omega)))) | (exfalso; omega))
    · (refine awp_loop' (fun mz st => ∃ (x : _), mz = a - x ∧ st.t 1 = .ptr 0 0 ∧ st.t 2 = .ptr 1 0 ∧ st.t 3 = .ptr 2 0 ∧ st.t 6 = .int .i64 k ∧ st.t 38 = .int .i64 a ∧ st.t 39 = .int .i64 k ∧ st.t 43 = .int .i64 a ∧ st.t 44 = .int .i64 x ∧ st.H 0 = some (.box 51 (cellsG a g)) ∧ st.H 1 = some (.box 57 (cellsF dzero)) ∧ st.H 2 = some (.box 57 (cellsF (relA a k x (relK a k d0)))) ∧ (x ≤ a)) ?_ ?_); rotate_left; (rintro mz st ⟨x, rfl, v1, v2, v3, v6, v38, v39, v43, v44, vH0, vH1, vH2, vp0⟩); rotate_left
      · (refine ⟨_, 0, rfl, ?_⟩); (simp (disch := omega) only [go_sem, Nat.reduceBEq, u1, u2, u3, u38, u39, uH0, uH1, uH2, true_and, and_true, Int.natCast_zero])
        rfl
      repeat' (first | refine awp_assoc ?_ | ((first | refine awp_seq_reg fun K hK => ?_ | refine awp_seq_draw (by decide +kernel) fun K hK => ?_ | refine awp_reg' fun K hK => ?_ | refine awp_draw' (by decide +kernel) fun K hK => ?_); (simp (disch := omega) only [go_sem, Nat.reduceBEq, reduceCtorEq, Nat.reduceAdd, Nat.reduceLeDiff, v1, v39, v43, v44, vH0])) | ((first | refine awp_seq_cond _ rfl (fun hc => ?_) (fun hc => ?_) | refine awp_cond _ rfl (fun hc => ?_) (fun hc => ?_)) <;> (first | (cases hc; done) | ((try simp only [decide_eq_true_eq, decide_eq_false_iff_not] at hc); (try (exfalso; omega))))) | refine awp_seq_block ?_ | refine awp_block ?_ | refine awp_seq_skip ?_ | refine awp_seq_ret ?_ | refine awp_seq_exit ?_ | refine awp_skip ?_ | refine awp_exit ?_ | refine awp_ret ?_ | refine seqK_n ?_ | refine seqK_e ?_ | refine seqK_r ?_ | refine blkK_n ?_ | refine blkK_e ?_ | refine blkK_o rfl ?_ | refine blkK_r ?_ | refine loopK_e ?_ | refine loopK_r ?_ | (first | refine retQ_K (by (simp (disch := omega) only [go_sem]); rfl) ?_ | refine retQ_K' (by (simp (disch := omega) only [go_sem]); rfl) ?_) | (refine hK _ ?_; clear hK K) | (refine stepG_split (fun hb => ?_) (fun hb => ?_) <;> (have hb2 := hb; try simp only [decide_eq_true_eq, decide_eq_false_iff_not, Classical.not_not, beq_iff_eq, beq_eq_false_iff_ne, bne_iff_ne, ne_eq, Bool.not_eq_true', Bool.not_eq_false', Bool.and_eq_true, Bool.or_eq_true, Bool.and_eq_false_imp, Bool.or_eq_false_iff, Bool.not_eq_true, Bool.not_eq_false] at hb2) <;> ((first | have hb3 : (_ : Bool) = _ := hb2 | have hb3 := eq_false hb2 | have hb3 := eq_true hb2); (simp (disch := omega) only [go_sem, Nat.reduceBEq, Nat.reduceBeqDiff, Nat.reduceEqDiff, reduceIte, reduceCtorEq, Nat.reduceAdd, Nat.reduceMul, Nat.reduceLeDiff, Nat.reduceLT, Int.reduceLT, Int.reduceLE, Int.reduceEq, hb, hb3, v1, v2, v3, v6, v38, v39, v43, v44, vH0, vH1, vH2, cellsG_take, cellsG_splice, cellsG_getS, cellsF_get, cellsF_splice, cellsF_take]); clear hb hb3; (try (exfalso; omega)))) | (exfalso; omega))
      · (refine awp_loop' (fun mz st => ∃ (y : _), mz = a - y ∧ st.t 1 = .ptr 0 0 ∧ st.t 2 = .ptr 1 0 ∧ st.t 3 = .ptr 2 0 ∧ st.t 6 = .int .i64 k ∧ st.t 7 = .int .i64 x ∧ st.t 38 = .int .i64 a ∧ st.t 39 = .int .i64 k ∧ st.t 43 = .int .i64 a ∧ st.t 44 = .int .i64 x ∧ st.t 48 = .int .i64 a ∧ st.t 49 = .int .i64 y ∧ st.H 0 = some (.box 51 (cellsG a g)) ∧ st.H 1 = some (.box 57 (cellsF dzero)) ∧ st.H 2 = some (.box 57 (cellsF (relB k x y (relA a k x (relK a k d0))))) ∧ (y ≤ a)) ?_ ?_); rotate_left; (rintro mz st ⟨y, rfl, w1, w2, w3, w6, w7, w38, w39, w43, w44, w48, w49, wH0, wH1, wH2, wp0⟩); rotate_left
        · (refine ⟨_, 0, rfl, ?_⟩); (simp (disch := omega) only [go_sem, Nat.reduceBEq, v1, v2, v3, v6, v38, v39, v43, v44, vH0, vH1, vH2, true_and, and_true, Int.natCast_zero])
          rfl
        have hok := okD_relB k x (okD_relA a k (okD_relK a hD0 k) x) y
        have h1 := hok.1
        have h2 := hok.2 (x * 16 + k)
        have h3 := hok.2 (k * 16 + y)
        repeat' (first | refine awp_assoc ?_ | ((first | refine awp_seq_reg fun K hK => ?_ | refine awp_seq_draw (by decide +kernel) fun K hK => ?_ | refine awp_reg' fun K hK => ?_ | refine awp_draw' (by decide +kernel) fun K hK => ?_); (simp (disch := omega) only [go_sem, Nat.reduceBEq, reduceCtorEq, Nat.reduceAdd, Nat.reduceLT, w3, w6, w7, w44, w48, w49, wH2, cellsF_get])) | ((first | refine awp_seq_cond _ rfl (fun hc => ?_) (fun hc => ?_) | refine awp_cond _ rfl (fun hc => ?_) (fun hc => ?_)) <;> (first | (cases hc; done) | ((try simp only [decide_eq_true_eq, decide_eq_false_iff_not] at hc); (try (exfalso; omega))))) | refine awp_seq_block ?_ | refine awp_block ?_ | refine awp_seq_skip ?_ | refine awp_seq_ret ?_ | refine awp_seq_exit ?_ | refine awp_skip ?_ | refine awp_exit ?_ | refine awp_ret ?_ | refine seqK_n ?_ | refine seqK_e ?_ | refine seqK_r ?_ | refine blkK_n ?_ | refine blkK_e ?_ | refine blkK_o rfl ?_ | refine blkK_r ?_ | refine loopK_e ?_ | refine loopK_r ?_ | (first | refine retQ_K (by (simp (disch := omega) only [go_sem]); rfl) ?_ | refine retQ_K' (by (simp (disch := omega) only [go_sem]); rfl) ?_) | (refine hK _ ?_; clear hK K) | (refine stepG_split (fun hb => ?_) (fun hb => ?_) <;> (have hb2 := hb; try simp only [decide_eq_true_eq, decide_eq_false_iff_not, Classical.not_not, beq_iff_eq, beq_eq_false_iff_ne, bne_iff_ne, ne_eq, Bool.not_eq_true', Bool.not_eq_false', Bool.and_eq_true, Bool.or_eq_true, Bool.and_eq_false_imp, Bool.or_eq_false_iff, Bool.not_eq_true, Bool.not_eq_false] at hb2) <;> ((first | have hb3 : (_ : Bool) = _ := hb2 | have hb3 := eq_false hb2 | have hb3 := eq_true hb2); (simp (disch := omega) only [go_sem, Nat.reduceBEq, Nat.reduceBeqDiff, Nat.reduceEqDiff, reduceIte, reduceCtorEq, Nat.reduceAdd, Nat.reduceMul, Nat.reduceLeDiff, Nat.reduceLT, Int.reduceLT, Int.reduceLE, Int.reduceEq, hb, hb3, w1, w2, w3, w6, w7, w38, w39, w43, w44, w48, w49, wH0, wH1, wH2, cellsG_take, cellsG_splice, cellsG_getS, cellsF_get, cellsF_splice, cellsF_take]); clear hb hb3; (try (exfalso; omega)))) | (exfalso; omega))
        · (refine Exists.intro _ (And.intro ?_ ⟨y + 1, rfl, ?_⟩)); rotate_left; (simp (disch := omega) only [go_sem, Nat.reduceBEq, w1, w2, w3, w6, w7, w38, w39, w43, w44, w48, w49, wH0, wH1, wH2, true_and, Int.natCast_add, Int.natCast_one, relB]); rotate_left
          · omega
          · omega
        · have h1 : y = a := by omega
          subst h1
          (refine Exists.intro _ (And.intro ?_ ⟨x + 1, rfl, ?_⟩)); rotate_left; (simp (disch := omega) only [go_sem, Nat.reduceBEq, w1, w2, w3, w6, w38, w39, w43, w44, wH0, wH1, wH2, true_and, Int.natCast_add, Int.natCast_one, relA]); rotate_left
          · omega
          · omega
      · have h1 : x = a := by omega
        subst h1
        skip
        (refine Exists.intro _ (And.intro ?_ ⟨k + 1, rfl, ?_⟩)); rotate_left; (simp (disch := omega) only [go_sem, Nat.reduceBEq, v1, v2, v3, v38, v39, vH0, vH1, vH2, true_and, Int.natCast_add, Int.natCast_one, relK]); rotate_left
        · omega
        · omega
    · have h1 : k = a := by omega
      subst h1
      exact fin_pure (by simp only [pureD, pure_cellsF]) (Le.refl _)
end Go.Proofs.Ytjibdljdkgedcaa
