import Derived.Test.YtppebcifiejplaaGreatWD
import Derived.Test.YtppebcifiejplaaGreatRows
import Derived.Carry
import Derived.WideShapes
/-
 Lemmas of the claim. No condition but those that each names.
-/
set_option linter.unusedSimpArgs false
set_option linter.unusedVariables false
set_option maxHeartbeats 8000000
set_option linter.unusedSectionVars false
namespace Go.Proofs.YtppebcifiejplaaGreat
section
open Abs Facts Tr
attribute [local irreducible] awp
set_option maxRecDepth 100000
theorem z7t (n a b : Int) : PC Tryz.prog 19 [.int .i64 n, .int .i64 a, .int .i64 b] (.bool (inB n a b)) := by
 refine z1y 1 rfl rfl (z1w [] Tryz.func19 rfl (by decide +kernel) z0j (by decide +kernel) (by simp [Tryz.ntmps19]) ?_)
 show awp _ _ (Code.seq _ _) _ _
 repeat' (first | ((refine zqh fun K J => ?_); (simp (disch := omega) only [go_sem, Nat.reduceBEq, ↓reduceIte])) | refine zqn ?_ | refine zqu (by (simp (disch := omega) only [go_sem]); rfl) rfl ?_ | (refine J _ ?_; clear J K) | (refine zqf (fun hb => ?_) (fun hb => ?_) <;> (have hb2 := hb; try simp only [z03] at hb2) <;> ((first | have F := eq_false hb2 | have F := eq_true hb2); (simp (disch := omega) only [go_sem, Nat.reduceBEq, ↓reduceIte, F]); clear hb F; (try (exfalso; omega)))))
 all_goals first | exact z00 (decide_eq_true (by omega)).symm | exact z00 (decide_eq_false (by omega)).symm | exact z00 (decide_eq_decide.2 (by omega))
theorem zjs (a b : List Stp) (ha : a.length <= maxLen) (hb : b.length <= maxLen) : PC Tryz.prog 51 [z0a a, z0a b] (.bool (decide (a = b))) := by
 unfold maxLen at ha hb
 have heq : ∀ x y : Stp, (decide (x.kind = y.kind) && decide (x.label = y.label)) = decide (x = y) := fun x y => by
  obtain ⟨a, b⟩ := x; obtain ⟨a', b'⟩ := y
  rw [Bool.eq_iff_iff]; simp [Stp.mk.injEq]
 refine z1y 1 (by simp only [pureD.pureL, z0r, Bool.and_self]) rfl (z1w [] Tryz.func51 rfl (by decide +kernel) z0j (by decide +kernel) (by simp [Tryz.ntmps51]) ?_)
 show awp _ _ (Code.seq _ _) _ _
 repeat' (first | refine zqj ?_ | ((refine zqh fun K J => ?_); (simp (disch := omega) only [go_sem, Nat.reduceBEq, ↓reduceIte, z0a])) | ((refine zqd _ rfl (fun hc => ?_) (fun hc => ?_)) <;> (((try simp only [z03] at hc); (try (exfalso; omega))))) | refine zqa ?_ | refine zqb ?_ | refine zqg ?_ | refine zqu (by (simp (disch := omega) only [go_sem]); rfl) rfl ?_ | (refine J _ ?_; clear J K))
 ·exact z00 (decide_eq_false (fun h => by subst h; contradiction)).symm
 ·have hl : a.length = b.length := by omega
  (refine z37 (fun U st => ∃ (k : _), U = a.length - k /\ st.t 0 = z0a a /\ st.t 1 = z0a b /\ st.t 5 = .int .i64 k /\ (k <= a.length) /\ (a.take k = b.take k)) ?_ ?_); rotate_left; (rintro U st ⟨k, rfl, q0, q1, q5, qp0, qp1⟩); rotate_left
  ·(refine ⟨_, 0, rfl, ?_⟩); (simp (disch := omega) only [go_sem, Nat.reduceBEq, and_self, Int.natCast_zero, z0a])
   try simp
  repeat' (first | refine zqj ?_ | ((first | refine zqh fun K J => ?_ | refine zqe (by decide +kernel) fun K J => ?_ | refine zqr fun K J => ?_); (simp (disch := omega) only [go_sem, Nat.reduceBEq, ↓reduceIte, reduceCtorEq, Nat.reduceAdd, q0, q1, q5, z0a, heq])) | ((first | refine zqd _ rfl (fun hc => ?_) (fun hc => ?_) | refine zqm _ rfl (fun hc => ?_) (fun hc => ?_)) <;> (((try simp only [z03] at hc); (try (exfalso; omega))))) | refine zqa ?_ | refine zqb ?_ | refine zqc ?_ | refine zqk ?_ | refine zqn ?_ | refine zqv ?_ | refine zqx ?_ | refine zqy ?_ | refine zqz ?_ | refine z4a ?_ | refine zqp ?_ | refine zqo ?_ | refine zqu (by (simp (disch := omega) only [go_sem]); rfl) rfl ?_ | (refine J _ ?_; clear J K))
  ·exact z00 (decide_eq_false (zwp (k := k) (by omega) hl (by assumption))).symm
  ·(refine Exists.intro _ (And.intro ?_ ⟨k + 1, rfl, ?_⟩)); rotate_left; (simp (disch := omega) only [go_sem, Nat.reduceBEq, q0, q1, q5, true_and, Int.natCast_add, Int.natCast_one, z0a]); rotate_left
   ·omega
   ·exact ⟨by omega, zba (by omega) hl qp1 (by assumption)⟩
  ·exact z00 (decide_eq_true (zf8 (by omega) hl qp1)).symm
theorem zmw (a b : List ByteArray) (ha : a.length <= maxLen) (hb : b.length <= maxLen) : PC Tryz.prog 52 [z3i a, z3i b] (.bool (decide (a = b))) := by
 unfold maxLen at ha hb
 have heq : ∀ x y : Stp, (decide (x.kind = y.kind) && decide (x.label = y.label)) = decide (x = y) := fun x y => by
  obtain ⟨a, b⟩ := x; obtain ⟨a', b'⟩ := y
  rw [Bool.eq_iff_iff]; simp [Stp.mk.injEq]
 refine z1y 1 (by simp only [pureD.pureL, z2v, Bool.and_self]) rfl (z1w [] Tryz.func52 rfl (by decide +kernel) z0j (by decide +kernel) (by simp [Tryz.ntmps52]) ?_)
 show awp _ _ (Code.seq _ _) _ _
 repeat' (first | refine zqj ?_ | ((refine zqh fun K J => ?_); (simp (disch := omega) only [go_sem, Nat.reduceBEq, ↓reduceIte, z3i])) | ((refine zqd _ rfl (fun hc => ?_) (fun hc => ?_)) <;> (((try simp only [z03] at hc); (try (exfalso; omega))))) | refine zqa ?_ | refine zqb ?_ | refine zqg ?_ | refine zqu (by (simp (disch := omega) only [go_sem]); rfl) rfl ?_ | (refine J _ ?_; clear J K))
 ·exact z00 (decide_eq_false (fun h => by subst h; contradiction)).symm
 ·have hl : a.length = b.length := by omega
  (refine z37 (fun U st => ∃ (k : _), U = a.length - k /\ st.t 0 = z3i a /\ st.t 1 = z3i b /\ st.t 5 = .int .i64 k /\ (k <= a.length) /\ (a.take k = b.take k)) ?_ ?_); rotate_left; (rintro U st ⟨k, rfl, q0, q1, q5, qp0, qp1⟩); rotate_left
  ·(refine ⟨_, 0, rfl, ?_⟩); (simp (disch := omega) only [go_sem, Nat.reduceBEq, and_self, Int.natCast_zero, z3i])
   try simp
  repeat' (first | refine zqj ?_ | ((first | refine zqh fun K J => ?_ | refine zqe (by decide +kernel) fun K J => ?_ | refine zqr fun K J => ?_); (simp (disch := omega) only [go_sem, Nat.reduceBEq, ↓reduceIte, reduceCtorEq, Nat.reduceAdd, q0, q1, q5, z3i])) | ((first | refine zqd _ rfl (fun hc => ?_) (fun hc => ?_) | refine zqm _ rfl (fun hc => ?_) (fun hc => ?_)) <;> (((try simp only [z03] at hc); (try (exfalso; omega))))) | refine zqa ?_ | refine zqb ?_ | refine zqc ?_ | refine zqk ?_ | refine zqn ?_ | refine zqv ?_ | refine zqx ?_ | refine zqy ?_ | refine zqz ?_ | refine z4a ?_ | refine zqp ?_ | refine zqo ?_ | refine zqu (by (simp (disch := omega) only [go_sem]); rfl) rfl ?_ | (refine J _ ?_; clear J K))
  ·exact z00 (decide_eq_false (zwp (k := k) (by omega) hl (by assumption))).symm
  ·(refine Exists.intro _ (And.intro ?_ ⟨k + 1, rfl, ?_⟩)); rotate_left; (simp (disch := omega) only [go_sem, Nat.reduceBEq, q0, q1, q5, true_and, Int.natCast_add, Int.natCast_one, z3i]); rotate_left
   ·omega
   ·exact ⟨by omega, zba (by omega) hl qp1 (by assumption)⟩
  ·exact z00 (decide_eq_true (zf8 (by omega) hl qp1)).symm
theorem zb5 (l : List ByteArray) (hl : l.length <= maxLen) (hs : ∀ s ∈ l, s.size <= maxLen) (n : Int) : PC Tryz.prog 27 [z3i l, .int .i64 n] (.bool (zfi l && decide (n <= (l.length : Int)))) := by
 have c1 := zxl l hl hs
 refine z1y 1 (by simp only [pureD.pureL, z2v, pureD, Bool.and_self]) rfl (z1w [] Tryz.func27 rfl (by decide +kernel) z0j (by decide +kernel) (by simp [Tryz.ntmps27]) ?_)
 show awp _ _ (Code.seq _ _) _ _
 repeat' (first | ((first | refine zqh fun K J => ?_ | refine zqs (c1) ?_); (simp (disch := omega) only [go_sem, Nat.reduceBEq, z3i])) | refine zqn ?_ | refine zqu (by (simp (disch := omega) only [go_sem]); rfl) rfl ?_ | (refine J _ ?_; clear J K) | (refine zqf (fun hb => ?_) (fun hb => ?_) <;> (have hb2 := hb; try simp only [z03] at hb2) <;> ((have F : (_ : Bool) = _ := hb2); (simp (disch := omega) only [go_sem, Nat.reduceBEq, ↓reduceIte, hb]); clear hb F; (try (exfalso; omega)))))
 all_goals refine z00 ?_
 all_goals first | (rw [‹zfi l = true›, Bool.true_and]; done) | (rw [‹zfi l = true›, Bool.true_and, decide_eq_decide]; omega) | (rw [‹zfi l = false›]; rfl)
theorem zzk {b : UInt8} (h : (97 <= b.toNat /\ b.toNat <= 122) \/ (48 <= b.toNat /\ b.toNat <= 57) \/ b.toNat = 45) : zm2 b = true := by
 unfold zm2 zua dig
 simp only [Bool.or_eq_true, decide_eq_true_eq]; exact h
theorem zzl {b : UInt8} (h : ¬ ((97 <= b.toNat /\ b.toNat <= 122) \/ (48 <= b.toNat /\ b.toNat <= 57) \/ b.toNat = 45)) : zm2 b = false := by
 rw [<- Bool.not_eq_true]
 intro g
 unfold zm2 zua dig at g
 simp only [Bool.or_eq_true, decide_eq_true_eq] at g
 exact h g
theorem zew (s : ByteArray) (hs : s.size <= maxLen) : PC Tryz.prog 23 [.str s] (.bool (zfh s)) := by
 unfold maxLen at hs
 refine z1y 1 (by simp only [pureD.pureL, pureD, Bool.and_self]) rfl (z1w [] Tryz.func23 rfl (by decide +kernel) z0j (by decide +kernel) (by simp [Tryz.ntmps23]) ?_)
 show awp _ _ (Code.seq _ _) _ _
 have hbl := z1b s
 have hz : Int.toNat 0 = 0 := rfl
 have hhd : ∀ h : 0 < (bl s).length, (bl s)[0] = (bl s).headD 0 := fun h => zte (s := s) h
 by_cases hlen : 1 <= s.size /\ s.size <= 16
 ·have hpos : 0 < (bl s).length := by omega
  have hhd := hhd hpos
  by_cases hlo : zua ((bl s).headD 0) = true
  ·have hlo2 : 97 <= ((bl s)[0]'hpos).toNat /\ ((bl s)[0]'hpos).toNat <= 122 := by rw [hhd]; exact of_decide_eq_true hlo
   have hn : zfh s = (bl s).all zm2 := by unfold zfh; rw [decide_eq_true hlen, hlo]; rfl
   rw [hn]
   repeat' (first | refine zqj ?_ | ((refine zqh fun K J => ?_); (simp (disch := omega) only [go_sem, Nat.reduceBEq, ↓reduceIte])) | ((refine zqd _ rfl (fun hc => ?_) (fun hc => ?_)) <;> (((try simp only [z03] at hc); (try (exfalso; omega))))) | refine zqa ?_ | refine zqb ?_ | (refine J _ ?_; clear J K) | (refine zqf (fun hb => ?_) (fun hb => ?_) <;> (have hb2 := hb; try simp only [z03] at hb2) <;> ((first | have F := eq_false hb2 | have F := eq_true hb2); (simp (disch := omega) only [go_sem, Nat.reduceBEq, ↓reduceIte, Int.reduceLE, F, zlm, hz]); clear hb F; (try (exfalso; omega)))))
   (refine z37 (fun U st => ∃ (k : _), U = s.size - k /\ st.t 0 = .str s /\ st.t 3 = .int .i64 k /\ (k <= s.size) /\ (((bl s).take k).all zm2 = true)) ?_ ?_); rotate_left; (rintro U st ⟨k, rfl, q0, q3, qp0, qp1⟩); rotate_left
   ·(refine ⟨_, 0, rfl, ?_⟩); (simp (disch := omega) only [go_sem, Nat.reduceBEq, true_and, Int.natCast_zero])
    simp
   by_cases hk : k < s.size
   ·repeat' (first | refine zqj ?_ | ((first | refine zqh fun K J => ?_ | refine zqr fun K J => ?_); (simp (disch := omega) only [go_sem, Nat.reduceBEq, ↓reduceIte, q0, q3, zlm])) | ((first | refine zqd _ rfl (fun hc => ?_) (fun hc => ?_) | refine zqm _ rfl (fun hc => ?_) (fun hc => ?_)) <;> (first | (cases hc; done) | ((try simp only [z03] at hc); (try (exfalso; omega))))) | refine zqa ?_ | refine zqb ?_ | refine zqk ?_ | refine zqn ?_ | refine zqv ?_ | refine zqx ?_ | refine zqy ?_ | refine z4a ?_ | refine zqo ?_ | refine zqu (by (simp (disch := omega) only [go_sem]); rfl) rfl ?_ | (refine J _ ?_; clear J K) | (refine zqf (fun hb => ?_) (fun hb => ?_) <;> (have hb2 := hb; try simp only [z03] at hb2) <;> ((first | have F := eq_false hb2 | have F := eq_true hb2); (simp (disch := omega) only [go_sem, Nat.reduceBEq, ↓reduceIte, F]); clear hb F; (try (exfalso; omega)))))
    all_goals first
     | exact z00 (z3y (k := k) (by omega) (zzl (by omega))).symm
     | skip
    all_goals
     (refine Exists.intro _ (And.intro ?_ ⟨k + 1, rfl, ?_⟩)); rotate_left; (simp (disch := omega) only [go_sem, Nat.reduceBEq, q0, q3, true_and, Int.natCast_add, Int.natCast_one]); rotate_left
     ·omega
     ·exact ⟨by omega, z2g (by omega) qp1 (zzk (by omega))⟩
   ·repeat' (first | refine zqj ?_ | ((refine zqh fun K J => ?_); (simp (disch := omega) only [go_sem, Nat.reduceBEq, ↓reduceIte, q0, q3])) | ((refine zqd _ rfl (fun hc => ?_) (fun hc => ?_)) <;> (((try simp only [z03] at hc); (try (exfalso; omega))))) | refine zqc ?_ | refine zqn ?_ | refine zqv ?_ | refine zqz ?_ | refine zqp ?_ | refine zqu (by (simp (disch := omega) only [go_sem]); rfl) rfl ?_ | (refine J _ ?_; clear J K))
    exact z00 (z2o (k := k) (by omega) qp1).symm
  ·have hlo2 : ¬ (97 <= ((bl s)[0]'hpos).toNat /\ ((bl s)[0]'hpos).toNat <= 122) := by rw [hhd]; exact fun g => hlo (decide_eq_true g)
   have hn : zfh s = false := by
    rw [Bool.not_eq_true] at hlo
    unfold zfh; rw [hlo, Bool.false_and, Bool.and_false]
   rw [hn]
   repeat' (first | refine zqj ?_ | ((refine z01 (N := 3) rfl fun K J => ?_); (simp (disch := omega) only [go_sem, Nat.reduceBEq, ↓reduceIte])) | ((refine zqd _ rfl (fun hc => ?_) (fun hc => ?_)) <;> (first | (cases hc; done) | ((try simp only [z03] at hc); (try (exfalso; omega))))) | refine zqg ?_ | refine zqu (by (simp (disch := omega) only [go_sem]); rfl) rfl ?_ | (refine J _ ?_; clear J K) | (refine zqf (fun hb => ?_) (fun hb => ?_) <;> (have hb2 := hb; try simp only [z03] at hb2) <;> ((first | have F := eq_false hb2 | have F := eq_true hb2); (simp (disch := omega) only [go_sem, Nat.reduceBEq, ↓reduceIte, Int.reduceLE, F, zlm, hz]); clear hb F; (try (exfalso; omega)))))
   all_goals first | exact z00 rfl | (exfalso; omega)
 ·have hn : zfh s = false := by unfold zfh; rw [decide_eq_false hlen]; rfl
  rw [hn]
  repeat' (first | refine zqj ?_ | ((refine z01 (N := 3) rfl fun K J => ?_); (simp (disch := omega) only [go_sem, Nat.reduceBEq, ↓reduceIte])) | ((refine zqd _ rfl (fun hc => ?_) (fun hc => ?_)) <;> (first | (cases hc; done) | ((try simp only [] at hc); (try (exfalso; omega))))) | refine zqg ?_ | refine zqu (by (simp (disch := omega) only [go_sem]); rfl) rfl ?_ | (refine J _ ?_; clear J K) | (refine zqf (fun hb => ?_) (fun hb => ?_) <;> (have hb2 := hb; try simp only [z03] at hb2) <;> ((first | have F := eq_false hb2 | have F := eq_true hb2); (simp (disch := omega) only [go_sem, Nat.reduceBEq, ↓reduceIte, Int.reduceLE, F, zlm, hz]); clear hb F; (try (exfalso; omega)))))
  all_goals first | exact z00 rfl | (exfalso; omega)
theorem zwg (k d : Int) (e : ByteArray) (he : e.size <= maxLen) : PC Tryz.prog 24 [.agg [.int .i64 k, .int .i64 d, .str e]] (.bool (zub k d e)) := by
 have c1 := z7t d 0 1048576
 have c2 := zew e he
 have hin : inB d 0 1048576 = decide (0 <= d /\ d <= 1048576) := rfl
 refine z1y 1 rfl rfl (z1w [] Tryz.func24 rfl (by decide +kernel) z0j (by decide +kernel) (by simp [Tryz.ntmps24]) ?_)
 show awp _ _ (Code.seq _ _) _ _
 unfold zub
 by_cases h1 : k = 1
 ·rw [if_pos h1, <- hin]
  repeat' (first | refine zqj ?_ | ((first | refine zqh fun K J => ?_ | refine zqs (c1) ?_); (simp (disch := omega) only [go_sem, Nat.reduceBEq, ↓reduceIte, reduceCtorEq, Nat.reduceAdd, h1])) | ((refine zqm _ rfl (fun hc => ?_) (fun hc => ?_)) <;> (first | (cases hc; done) | ((try simp only [] at hc); (try (exfalso; omega))))) | refine zqa ?_ | refine zqn ?_ | refine zqx ?_ | refine z4a ?_ | refine zqu (by (simp (disch := omega) only [go_sem]); rfl) rfl ?_ | (refine J _ ?_; clear J K) | (refine zqf (fun hb => ?_) (fun hb => ?_) <;> (have hb2 := hb; try simp only [z03] at hb2) <;> ((have F : (_ : Bool) = _ := hb2); (simp (disch := omega) only [go_sem, Nat.reduceBEq, ↓reduceIte, reduceCtorEq, Nat.reduceAdd, hb]); clear hb F; (try (exfalso; omega)))))
  all_goals first
   | (refine z00 ?_; rw [‹inB d 0 1048576 = true›, Bool.true_and]; try (exact decide_eq_decide.2 Iff.rfl))
   | (refine z00 ?_; rw [‹inB d 0 1048576 = false›]; rfl)
   | (refine z00 ?_; rw [decide_eq_true (p := d = 0) (by assumption), Bool.true_and]; try (exact decide_eq_decide.2 Iff.rfl))
   | (refine z00 ?_; rw [decide_eq_false (p := d = 0) (by assumption)]; rfl)
 ·rw [if_neg h1]
  by_cases h3 : k = 3
  ·rw [if_pos h3]
   repeat' (first | refine zqj ?_ | ((first | refine zqh fun K J => ?_ | refine zqs (c2) ?_); (simp (disch := omega) only [go_sem, Nat.reduceBEq, ↓reduceIte, reduceCtorEq, Nat.reduceAdd, Int.reduceEq, h3])) | ((refine zqm _ rfl (fun hc => ?_) (fun hc => ?_)) <;> (first | (cases hc; done) | ((try simp only [] at hc); (try (exfalso; omega))))) | refine zqa ?_ | refine zqn ?_ | refine zqx ?_ | refine z4a ?_ | refine zqu (by (simp (disch := omega) only [go_sem]); rfl) rfl ?_ | (refine J _ ?_; clear J K) | (refine zqf (fun hb => ?_) (fun hb => ?_) <;> (have hb2 := hb; try simp only [z03] at hb2) <;> ((first | have F := eq_false hb2 | have F := eq_true hb2); (simp (disch := omega) only [go_sem, Nat.reduceBEq, ↓reduceIte, reduceCtorEq, Nat.reduceAdd, F]); clear hb F; (try (exfalso; omega)))))
   all_goals first
    | (refine z00 ?_; rw [‹inB d 0 1048576 = true›, Bool.true_and]; try (exact decide_eq_decide.2 Iff.rfl))
    | (refine z00 ?_; rw [‹inB d 0 1048576 = false›]; rfl)
    | (refine z00 ?_; rw [decide_eq_true (p := d = 0) (by assumption), Bool.true_and]; try (exact decide_eq_decide.2 Iff.rfl))
    | (refine z00 ?_; rw [decide_eq_false (p := d = 0) (by assumption)]; rfl)
  ·rw [if_neg h3]
   by_cases h0 : k = 0 \/ k = 2
   ·rw [if_pos h0]
    rcases h0 with h0 | h0
    all_goals (repeat' (first | refine zqj ?_ | ((refine zqh fun K J => ?_); (simp (disch := omega) only [go_sem, Nat.reduceBEq, ↓reduceIte, reduceCtorEq, Nat.reduceAdd, Int.reduceEq, h0])) | ((first | refine zqd _ rfl (fun hc => ?_) (fun hc => ?_) | refine zqm _ rfl (fun hc => ?_) (fun hc => ?_)) <;> (first | (cases hc; done) | ((try simp only [] at hc); (try (exfalso; omega))))) | refine zqa ?_ | refine zqb ?_ | refine zqn ?_ | refine zqx ?_ | refine z4a ?_ | refine zqu (by (simp (disch := omega) only [go_sem]); rfl) rfl ?_ | (refine J _ ?_; clear J K) | (refine zqf (fun hb => ?_) (fun hb => ?_) <;> (have hb2 := hb; try simp only [z03] at hb2) <;> ((first | have F := eq_false hb2 | have F := eq_true hb2); (simp (disch := omega) only [go_sem, Nat.reduceBEq, ↓reduceIte, reduceCtorEq, Nat.reduceAdd, F]); clear hb F; (try (exfalso; omega))))))
    all_goals first
     | (refine z00 ?_; rw [‹inB d 0 1048576 = true›, Bool.true_and]; try (exact decide_eq_decide.2 Iff.rfl))
     | (refine z00 ?_; rw [‹inB d 0 1048576 = false›]; rfl)
     | (refine z00 ?_; rw [decide_eq_true (p := d = 0) (by assumption), Bool.true_and]; try (exact decide_eq_decide.2 Iff.rfl))
     | (refine z00 ?_; rw [decide_eq_false (p := d = 0) (by assumption)]; rfl)
   ·rw [if_neg h0]
    repeat' (first | refine zqj ?_ | ((refine zqh fun K J => ?_); (simp (disch := omega) only [go_sem, Nat.reduceBEq, ↓reduceIte, reduceCtorEq, Nat.reduceAdd])) | ((first | refine zqd _ rfl (fun hc => ?_) (fun hc => ?_) | refine zqm _ rfl (fun hc => ?_) (fun hc => ?_)) <;> (((try simp only [z03] at hc); (try (exfalso; omega))))) | refine zqa ?_ | refine zqk ?_ | refine zqn ?_ | refine zqv ?_ | refine zqy ?_ | refine zqu (by (simp (disch := omega) only [go_sem]); rfl) rfl ?_ | (refine J _ ?_; clear J K))
    all_goals first | exact z00 rfl | (exfalso; omega)
namespace Tr
structure BaseI (x : It) : Prop where
 at_ : x.at_.length <= maxLen
 to : x.to.length <= maxLen
 old : x.old.length <= maxLen
 new : x.new.length <= maxLen
 by_ : x.by_.length <= maxLen
 unit : szB x.unit = true
def FitF (x : It) (l : List Prop) : Prop := BaseI x /\ ∀ p ∈ l, p
def zwx (x : It) : Prop := ztz FitF x
theorem zbe (x : It) : zwx x ↔ BaseI x /\ ∀ k ∈ x.by_, zwx k := by
 unfold zwx
 rw [zc4]
 refine ⟨fun ⟨h1, h2⟩ => ⟨h1, fun k hk => h2 _ (List.mem_map.2 ⟨k, hk, rfl⟩)⟩, fun ⟨h1, h2⟩ => ⟨h1, fun p hp => ?_⟩⟩
 obtain ⟨k, hk, rfl⟩ := List.mem_map.1 hp
 exact h2 k hk
theorem It.ext {a b : It} (h0 : a.kind = b.kind) (h1 : a.at_ = b.at_) (h2 : a.to = b.to) (h3 : a.wh = b.wh) (h4 : a.nth = b.nth) (h5 : a.unit = b.unit) (h6 : a.old = b.old) (h7 : a.new = b.new) (h8 : a.label = b.label) (h9 : a.for_ = b.for_)
  (g0 : a.sk = b.sk) (g1 : a.sd = b.sd) (g2 : a.se = b.se) (g3 : a.act = b.act) (g4 : a.item = b.item) (g5 : a.day = b.day) (g6 : a.event = b.event) (g7 : a.by_ = b.by_) : a = b := by
 cases a; cases b
 simp only [It.kind, It.at_, It.to, It.wh, It.nth, It.unit, It.old, It.new, It.label, It.for_, It.sk, It.sd, It.se, It.act, It.item, It.day, It.event, It.by_] at *
 subst h0 h1 h2 h3 h4 h5 h6 h7 h8 h9 g0 g1 g2 g3 g4 g5 g6 g7
 rfl
structure Sta where
 k : Int
 d : Int
 e : ByteArray
instance : DecidableEq Sta := fun a b => decidable_of_iff (a.k = b.k /\ a.d = b.d /\ a.e = b.e) ⟨fun ⟨h1, h2, h3⟩ => by cases a; cases b; simp_all, fun h => by subst h; exact ⟨rfl, rfl, rfl⟩⟩
theorem staEq (a b c a' b' c') : (decide (a = a') && (decide (b = b') && decide (c = c'))) = decide (Sta.mk a b c = Sta.mk a' b' c') := by
 rw [Bool.eq_iff_iff]; simp [Sta.mk.injEq]
theorem staEq' (a b c a' b' c') : (decide (a = a') && decide (b = b') && decide (c = c')) = decide (Sta.mk a b c = Sta.mk a' b' c') := by rw [Bool.and_assoc, staEq]
end Tr
set_option maxHeartbeats 16000000 in
theorem zwy : ∀ a : It, zwx a -> ∀ b : It, zwx b -> PC Tryz.prog 20 [zc5 a, zc5 b] (.bool (decide (a = b))) := by
 refine zlt fun a ih ha b hb => ?_
 obtain ⟨a1, a2⟩ := (zbe a).1 ha
 obtain ⟨b1, b2⟩ := (zbe b).1 hb
 have c1 := zjs a.at_ b.at_ a1.at_ b1.at_
 have c2 := zjs a.to b.to a1.to b1.to
 have c3 := zmw a.old b.old a1.old b1.old
 have c4 := zmw a.new b.new a1.new b1.new
 have c5 := zlp a.unit a1.unit b.unit b1.unit
 have hl1 := a1.by_
 have hl2 := b1.by_
 unfold maxLen at hl1 hl2
 have hst := staEq a.sk a.sd a.se b.sk b.sd b.se
 have hst' := staEq' a.sk a.sd a.se b.sk b.sd b.se
 refine z1y 1 (by simp only [pureD.pureL, z48, Bool.and_self]) rfl (z1w [] Tryz.func20 rfl (by decide +kernel) z0j (by decide +kernel) (by simp [Tryz.ntmps20]) ?_)
 show awp _ _ (Code.seq _ _) _ _
 repeat' (first | refine zqj ?_ | ((refine z01 (N := 3) rfl fun K J => ?_); (simp (disch := omega) only [go_sem, Nat.reduceBEq, ↓reduceIte, reduceCtorEq, Nat.reduceAdd, List.append_eq, List.cons_append, List.nil_append, List.map_cons, List.map_nil])) | ((refine zqd _ rfl (fun hc => ?_) (fun hc => ?_)) <;> (first | (cases hc; done) | ((try simp only [z03] at hc); (try (exfalso; omega))))) | refine zqb ?_ | refine zqg ?_ | refine zqu (by (simp (disch := omega) only [go_sem]); rfl) rfl ?_ | (refine J _ ?_; clear J K) | (refine zqf (fun hb => ?_) (fun hb => ?_) <;> (have hb2 := hb; try simp only [z03] at hb2) <;> ((first | have F := eq_false hb2 | have F := eq_true hb2); (simp (disch := omega) only [go_sem, Nat.reduceBEq, ↓reduceIte, reduceCtorEq, Nat.reduceAdd, Nat.reduceLeDiff, F, hst']); clear hb F; (try (exfalso; omega)))))
 all_goals first
  | exact z00 (decide_eq_false (fun h => by subst h; contradiction)).symm
  | skip
 clear hst hst'
 have hsta : a.sk = b.sk /\ a.sd = b.sd /\ a.se = b.se := by
  have h := ‹Sta.mk a.sk a.sd a.se = Sta.mk b.sk b.sd b.se›
  rw [Sta.mk.injEq] at h; exact h
 (refine z1c (fun st => st.t 2 = .ptr 0 0 /\ st.t 3 = .ptr 1 0 /\ st.H 0 = some (.box 34 (z0i a)) /\ st.H 1 = some (.box 34 (z0i b)) /\ st.nx = 2) ?_ ?_); rotate_left; (rintro st ⟨p2, p3, pH0, pH1, pnx⟩); rotate_left
 ·(simp (disch := omega) only [go_sem, Nat.reduceBEq, and_self])
 repeat' (first | refine zqj ?_ | ((first | refine z01 (N := 5) rfl fun K J => ?_ | refine zqs (c1) ?_ | refine zqs (c2) ?_ | refine zqs (c3) ?_ | refine zqs (c4) ?_ | refine zqs (c5) ?_); (simp (disch := omega) only [go_sem, Nat.reduceBEq, ↓reduceIte, reduceCtorEq, Nat.reduceAdd, p2, p3, pH0, pH1, pnx])) | ((refine zqd _ rfl (fun hc => ?_) (fun hc => ?_)) <;> (first | (cases hc; done) | ((try simp only [z03] at hc); (try (exfalso; omega))))) | refine zqb ?_ | refine zqg ?_ | refine zqu (by (simp (disch := omega) only [go_sem]); rfl) rfl ?_ | (refine J _ ?_; clear J K) | (refine zqf (fun hb => ?_) (fun hb => ?_) <;> (have hb2 := hb; try simp only [z03] at hb2) <;> ((first | have F := eq_false hb2 | have F := eq_true hb2); (simp (disch := omega) only [go_sem, Nat.reduceBEq, ↓reduceIte, reduceCtorEq, Nat.reduceAdd, Nat.reduceLeDiff, F, p2, p3, pH0, pH1, z3l]); clear hb F; (try (exfalso; omega)))))
 all_goals first
  | exact z00 (decide_eq_false (fun h => by subst h; contradiction)).symm
  | skip
 have hl : a.by_.length = b.by_.length := by omega
 repeat' (first | ((refine zqh fun K J => ?_); (simp (disch := omega) only [go_sem, pnx])) | refine zqa ?_ | (refine J _ ?_; clear J K))
 (refine z37 (fun U st => ∃ (k : _), U = a.by_.length - k /\ st.t 2 = .ptr 0 0 /\ st.t 3 = .ptr 1 0 /\ st.t 5 = .int .i64 k /\ st.H 0 = some (.box 34 (z0i a)) /\ st.H 1 = some (.box 34 (z0i b)) /\ st.nx = 2 /\ (k <= a.by_.length) /\ (a.by_.take k = b.by_.take k)) ?_ ?_); rotate_left; (rintro U st ⟨k, rfl, q2, q3, q5, qH0, qH1, qnx, qp0, qp1⟩); rotate_left
 ·(refine ⟨_, 0, rfl, ?_⟩); (simp (disch := omega) only [go_sem, Nat.reduceBEq, p2, p3, pH0, pH1, and_self, Int.natCast_zero])
 by_cases hk : k < a.by_.length
 ·have c6 := ih a.by_[k] (List.getElem_mem hk) (a2 _ (List.getElem_mem hk)) (b.by_[k]'(by omega)) (b2 _ (List.getElem_mem (by omega)))
  repeat' (first | refine zqj ?_ | ((first | refine zqh fun K J => ?_ | refine zqe (by decide +kernel) fun K J => ?_ | refine zqr fun K J => ?_ | refine zqt (c6) ?_); (simp (disch := omega) only [go_sem, Nat.reduceBEq, ↓reduceIte, reduceCtorEq, Nat.reduceAdd, q2, q3, q5, qH0, qH1, qnx, z3l])) | ((first | refine zqd _ rfl (fun hc => ?_) (fun hc => ?_) | refine zqm _ rfl (fun hc => ?_) (fun hc => ?_)) <;> (((try simp only [z03] at hc); (try (exfalso; omega))))) | refine zqa ?_ | refine zqb ?_ | refine zqk ?_ | refine zqn ?_ | refine zqv ?_ | refine zqx ?_ | refine zqy ?_ | refine z4a ?_ | refine zqo ?_ | refine zqu (by (simp (disch := omega) only [go_sem]); rfl) rfl ?_ | (refine J _ ?_; clear J K))
  ·exact z00 (decide_eq_false (fun h => by subst h; exact ‹¬ a.by_[k] = a.by_[k]› rfl)).symm
  ·(refine Exists.intro _ (And.intro ?_ ⟨k + 1, rfl, ?_⟩)); rotate_left; (simp (disch := omega) only [go_sem, Nat.reduceBEq, q2, q3, q5, qH0, qH1, true_and, Int.natCast_add, Int.natCast_one]); rotate_left
   ·omega
   ·exact ⟨by omega, zba hk hl qp1 (by assumption)⟩
 ·repeat' (first | refine zqj ?_ | ((refine zqh fun K J => ?_); (simp (disch := omega) only [go_sem, Nat.reduceBEq, ↓reduceIte, reduceCtorEq, Nat.reduceAdd, q2, q5, qH0, qnx, z3l])) | ((refine zqd _ rfl (fun hc => ?_) (fun hc => ?_)) <;> (((try simp only [z03] at hc); (try (exfalso; omega))))) | refine zqc ?_ | refine zqn ?_ | refine zqv ?_ | refine zqz ?_ | refine zqp ?_ | refine zqu (by (simp (disch := omega) only [go_sem]); rfl) rfl ?_ | (refine J _ ?_; clear J K))
  have hby := zf8 (by omega) hl qp1
  exact z00 (decide_eq_true (It.ext (by assumption) (by assumption) (by assumption) (by assumption) (by assumption) (by assumption) (by assumption) (by assumption) (by assumption) (by assumption) hsta.1 hsta.2.1 hsta.2.2 (by assumption) (by assumption) (by assumption) (by assumption) hby)).symm
end
section
open Abs Facts Tr
namespace Tr
structure BaseR (x : It) : Prop where
 at_ : x.at_.length <= maxLen /\ ∀ s ∈ x.at_, s.label.size <= maxLen
 to : x.to.length <= maxLen /\ ∀ s ∈ x.to, s.label.size <= maxLen
 old : x.old.length <= maxLen /\ ∀ s ∈ x.old, s.size <= maxLen
 new : x.new.length <= maxLen /\ ∀ s ∈ x.new, s.size <= maxLen
 by_ : x.by_.length <= maxLen
 unit : fitB x.unit = true
 strs : x.label.size <= maxLen /\ x.for_.size <= maxLen /\ x.se.size <= maxLen /\ x.event.size <= maxLen
def RdF (x : It) (l : List Prop) : Prop := BaseR x /\ ∀ p ∈ l, p
def RdI (x : It) : Prop := ztz RdF x
theorem zh4 (x : It) : RdI x ↔ BaseR x /\ ∀ k ∈ x.by_, RdI k := by
 unfold RdI
 rw [zc4]
 refine ⟨fun ⟨h1, h2⟩ => ⟨h1, fun k hk => h2 _ (List.mem_map.2 ⟨k, hk, rfl⟩)⟩, fun ⟨h1, h2⟩ => ⟨h1, fun p hp => ?_⟩⟩
 obtain ⟨k, hk, rfl⟩ := List.mem_map.1 hp
 exact h2 k hk
def zkm (x : It) : Bool := decide (0 < x.by_.length) && decide (0 < (x.by_.headD x).by_.length)
def zym (x : It) : Bool := decide (x.at_.length <= 12) && (decide (x.to.length <= 12) && (decide (x.old.length <= 300) && (decide (x.new.length <= 300) && (decide (x.label.size <= 100) && (decide (x.for_.size <= 100) && (decide (x.se.size <= 100) && (decide (x.event.size <= 100) && (decide (x.by_.length <= 2) && zvi x.unit 30))))))))
def shS (l : List ByteArray) : Bool := l.all fun s => decide (s.size <= 100)
def shP (l : List Stp) : Bool := l.all fun s => decide (s.label.size <= 100)
def zps (x : It) : Bool := ztz (fun x l => zym x && (shS x.old && (shS x.new && (shP x.at_ && (shP x.to && ((x.by_.zip l).all fun p => !zkm p.1 && p.2)))))) x
theorem zkn (x : It) : zps x = (zym x && (shS x.old && (shS x.new && (shP x.at_ && (shP x.to && x.by_.all fun y => !zkm y && zps y))))) := by
 unfold zps
 rw [zc4]
 congr 5
 generalize x.by_ = l
 induction l with
 | nil => rfl
 | cons a l ih => simp only [List.map_cons, List.zip_cons_cons, List.all_cons, ih]
structure BaseO (x : It) : Prop where
 at_ : x.at_.length <= 1000 /\ ∀ s ∈ x.at_, s.label.size <= 1000
 to : x.to.length <= 1000 /\ ∀ s ∈ x.to, s.label.size <= 1000
 old : x.old.length <= 1000 /\ ∀ s ∈ x.old, s.size <= 1000
 new : x.new.length <= 1000 /\ ∀ s ∈ x.new, s.size <= 1000
 by_ : x.by_.length <= 1000
 unit : szB x.unit = true /\ cntT x.unit <= 1000 /\ depT x.unit <= 50
 strs : x.label.size <= 1000 /\ x.for_.size <= 1000 /\ x.se.size <= 1000 /\ x.event.size <= 1000
def OkF (x : It) (l : List Prop) : Prop := BaseO x /\ ∀ p ∈ l, p
def OkI (x : It) : Prop := ztz OkF x
theorem z87 (x : It) : OkI x ↔ BaseO x /\ ∀ k ∈ x.by_, OkI k := by
 unfold OkI
 rw [zc4]
 refine ⟨fun ⟨h1, h2⟩ => ⟨h1, fun k hk => h2 _ (List.mem_map.2 ⟨k, hk, rfl⟩)⟩, fun ⟨h1, h2⟩ => ⟨h1, fun p hp => ?_⟩⟩
 obtain ⟨k, hk, rfl⟩ := List.mem_map.1 hp
 exact h2 k hk
theorem ok_fit : ∀ x : It, OkI x -> zwx x := by
 refine zlt fun x ih h => ?_
 obtain ⟨h1, h2⟩ := (z87 x).1 h
 refine (zbe x).2 ⟨⟨?_, ?_, ?_, ?_, ?_, h1.unit.1⟩, fun k hk => ih k hk (h2 k hk)⟩
 ·have := h1.at_.1; unfold maxLen; omega
 ·have := h1.to.1; unfold maxLen; omega
 ·have := h1.old.1; unfold maxLen; omega
 ·have := h1.new.1; unfold maxLen; omega
 ·have := h1.by_; unfold maxLen; omega
theorem few_ok : ∀ x : It, zps x = true -> OkI x := by
 refine zlt fun x ih h => ?_
 rw [zkn, zym] at h
 simp only [Bool.and_eq_true, decide_eq_true_eq, List.all_eq_true, shS, shP] at h
 obtain ⟨⟨a1, a2, a3, a4, a5, a6, a7, a8, a9, a10⟩, b1, b2, b3, b4, b5⟩ := h
 obtain ⟨c1, c2, c3⟩ := zql (most := 30) (by decide) (by decide) a10
 refine (z87 x).2 ⟨⟨⟨by omega, fun s hs => ?_⟩, ⟨by omega, fun s hs => ?_⟩, ⟨by omega, fun s hs => ?_⟩, ⟨by omega, fun s hs => ?_⟩, by omega, ⟨c1, by omega, by omega⟩, by omega, by omega, by omega, by omega⟩, fun k hk => ih k hk (b5 k hk).2⟩
 ·have := b3 s hs; omega
 ·have := b4 s hs; omega
 ·have := b1 s hs; omega
 ·have := b2 s hs; omega
theorem zux (x : It) (h : zwx x) : zwx (zhz x) := by
 obtain ⟨h1, h2⟩ := (zbe x).1 h
 have z : szB T.zero = true := by decide +kernel
 refine (zbe _).2 ⟨⟨?_, ?_, ?_, ?_, ?_, ?_⟩, ?_⟩
 ·show (if _ then x.at_ else []).length <= _
  split
  ·exact h1.at_
  ·exact Nat.zero_le _
 ·show (if _ then x.to else []).length <= _
  split
  ·exact h1.to
  ·exact Nat.zero_le _
 ·show (if _ then x.old else []).length <= _
  split
  ·exact h1.old
  ·exact Nat.zero_le _
 ·show (if _ then x.new else []).length <= _
  split
  ·exact h1.new
  ·exact Nat.zero_le _
 ·show (if _ then x.by_ else []).length <= _
  split
  ·exact h1.by_
  ·exact Nat.zero_le _
 ·show szB (if _ then x.unit else T.zero) = true
  split
  ·exact h1.unit
  ·exact z
 ·show ∀ k ∈ (if x.kind = 11 then x.by_ else []), zwx k
  split
  ·exact h2
  ·intro k hk; cases hk
theorem za1 {u : T} {id : Idv} (h : id ∈ z0c u) : (z07 id u).2 = true := by rw [z36, decide_eq_true h]
end Tr
end
end Go.Proofs.YtppebcifiejplaaGreat
namespace Go.Proofs.YtppebcifiejplaaGreat.Glue
open Go.ChangeShapes Go.WideShapes Go.ChangeAt Go.RowKit Abs Facts Tr
theorem ownK : ownKnob Tryz.prog.godebug = none := by kernel_rfl
theorem laidOutK : laidOutB Tryz.prog = true := by kernel_rfl
def S : List TypeId := [4, 3, 9, 29, 23, 111, 113, 24, 27, 25, 59, 28, 31, 34, 32, 36]
set_option maxRecDepth 100000
theorem zrh : zls Tryz.prog S = true := by decide +kernel
theorem zve {n : Nat} {ds : List D} (h : z43 Tryz.prog n 23 ds) : ∃ i : Idv, ds = z04 i := by
 obtain ⟨m, rfl, h⟩ := z2y Tryz.underlying23 h
 obtain ⟨d1, r1, rfl, h1, d2, r2, rfl, h2, d3, r3, rfl, h3, rfl⟩ := h
 obtain ⟨i, rfl, _⟩ := z1t Tryz.underlying3 h1
 obtain ⟨j, rfl, _⟩ := z1t Tryz.underlying3 h2
 obtain ⟨k, rfl, _⟩ := z1t Tryz.underlying3 h3
 exact ⟨⟨i, j, k⟩, rfl⟩
theorem znz {n : Nat} {ds : List D} (h : z43 Tryz.prog n 113 ds) : ∃ w : Wd, ds = z5z w := by
 obtain ⟨m, rfl, h⟩ := z2y Tryz.underlying113 h
 obtain ⟨d1, r1, rfl, h1, d2, r2, rfl, h2, rfl⟩ := h
 obtain ⟨s, rfl, _⟩ := z5c Tryz.underlying9 h1
 obtain ⟨m', rfl, h3⟩ := z2y Tryz.underlying111 h2
 obtain ⟨e1, q1, rfl, g1, e2, q2, rfl, g2, e3, q3, rfl, g3, rfl⟩ := h3
 obtain ⟨i, rfl, _⟩ := z1t Tryz.underlying3 g1
 obtain ⟨j, rfl, _⟩ := z1t Tryz.underlying3 g2
 obtain ⟨k, rfl, _⟩ := z1t Tryz.underlying3 g3
 exact ⟨⟨s, ⟨i, j, k⟩⟩, rfl⟩
theorem zdo {n : Nat} {ds : List D} (h : z43 Tryz.prog n 24 ds) : ∃ l : List Wd, ds = [z0q l] /\ l.length <= maxLen := by
 obtain ⟨m, parts, rfl, hl, hp, rfl⟩ := z6d Tryz.underlying24 h
 obtain ⟨l, rfl, _⟩ := z3t (f := z5z) (q := fun _ => True) (fun p hp => by obtain ⟨w, e⟩ := znz hp; exact ⟨w, e, trivial⟩) parts hp
 refine ⟨l, ?_, by simpa using hl⟩
 rw [zdi, zh2, List.map_map]; rfl
theorem zfy : ∀ (n : Nat) {ds : List D}, z43 Tryz.prog n 27 ds -> ∃ t : T, ds = z06 t /\ fitB t = true := by
 intro n
 induction n using Nat.strongRecOn with
 | ind n ih =>
  intro ds h
  obtain ⟨m, rfl, h⟩ := z2y Tryz.underlying27 h
  obtain ⟨d1, r1, rfl, h1, d2, r2, rfl, h2, d3, r3, rfl, h3, d4, r4, rfl, h4, d5, r5, rfl, h5, d6, r6, rfl, h6, rfl⟩ := h
  obtain ⟨i, rfl⟩ := zve h1
  obtain ⟨k, rfl, _⟩ := z1t Tryz.underlying3 h2
  obtain ⟨s, rfl, _⟩ := z5c Tryz.underlying9 h3
  obtain ⟨a, rfl, ha⟩ := zdo h4
  obtain ⟨b, rfl, hb⟩ := zdo h5
  obtain ⟨q, parts, rfl, hl, hp, rfl⟩ := z6d Tryz.underlying25 h6
  obtain ⟨l, rfl, hq⟩ := z3t (f := z06) (q := fun t => fitB t = true) (fun p hp => ih q (by omega) hp) parts hp
  refine ⟨.mk i k s a b l, ?_, ?_⟩
  ·rw [z10, z5m, z7c, List.map_map]; rfl
  ·rw [zbl]
   exact ⟨ha, hb, (show l.length <= _ by simpa using hl), hq⟩
theorem zo0 {n : Nat} {ds : List D} (h : z43 Tryz.prog n 59 ds) : ∃ s : Stp, ds = z3x s /\ s.label.size <= maxLen := by
 obtain ⟨m, rfl, h⟩ := z2y Tryz.underlying59 h
 obtain ⟨d1, r1, rfl, h1, d2, r2, rfl, h2, rfl⟩ := h
 obtain ⟨i, rfl, _⟩ := z1t Tryz.underlying3 h1
 obtain ⟨s, rfl, hs⟩ := z5c Tryz.underlying9 h2
 exact ⟨⟨i, s⟩, rfl, hs⟩
theorem zdp {n : Nat} {ds : List D} (h : z43 Tryz.prog n 28 ds) : ∃ l : List Stp, ds = [z0a l] /\ l.length <= maxLen /\ ∀ s ∈ l, s.label.size <= maxLen := by
 obtain ⟨m, parts, rfl, hl, hp, rfl⟩ := z6d Tryz.underlying28 h
 obtain ⟨l, rfl, hq⟩ := z3t (f := z3x) (q := fun s : Stp => s.label.size <= maxLen) (fun p hp => zo0 hp) parts hp
 refine ⟨l, ?_, by simpa using hl, hq⟩
 rw [zh1, zkk, List.map_map]; rfl
theorem zo1 : ∀ (n : Nat) {ds : List D}, z43 Tryz.prog n 34 ds -> ∃ x : It, ds = z0i x /\ RdI x := by
 intro n
 induction n using Nat.strongRecOn with
 | ind n ih =>
  intro ds h
  obtain ⟨m, rfl, h⟩ := z2y Tryz.underlying34 h
  obtain ⟨d0, r0, rfl, h0, d1, r1, rfl, h1, d2, r2, rfl, h2, d3, r3, rfl, h3, d4, r4, rfl, h4, d5, r5, rfl, h5, d6, r6, rfl, h6, d7, r7, rfl, h7, d8, r8, rfl, h8, d9, r9, rfl, h9, d10, r10, rfl, h10, d11, r11, rfl, h11, d12, r12, rfl, h12, d13, r13, rfl, h13, d14, r14, rfl, h14, d15, r15, rfl, h15, rfl⟩ := h
  obtain ⟨k, rfl, _⟩ := z1t Tryz.underlying3 h0
  obtain ⟨a, rfl, ha⟩ := zdp h1
  obtain ⟨b, rfl, hb⟩ := zdp h2
  obtain ⟨w, rfl, _⟩ := z1t Tryz.underlying3 h3
  obtain ⟨nth, rfl, _⟩ := z1t Tryz.underlying3 h4
  obtain ⟨u, rfl, hu⟩ := zfy _ h5
  obtain ⟨o, rfl, ho⟩ := zgv Tryz.underlying29 Tryz.underlying9 z84 h6
  obtain ⟨p, rfl, hp⟩ := zgv Tryz.underlying29 Tryz.underlying9 z84 h7
  obtain ⟨l, rfl, hl⟩ := z5c Tryz.underlying9 h8
  obtain ⟨f, rfl, hf⟩ := z5c Tryz.underlying9 h9
  obtain ⟨m', hm', h10⟩ := z2y Tryz.underlying31 h10
  obtain ⟨s1, t1, rfl, g1, s2, t2, rfl, g2, s3, t3, rfl, g3, rfl⟩ := h10
  obtain ⟨sk, rfl, _⟩ := z1t Tryz.underlying3 g1
  obtain ⟨sd, rfl, _⟩ := z1t Tryz.underlying3 g2
  obtain ⟨se, rfl, hse⟩ := z5c Tryz.underlying9 g3
  obtain ⟨x1, rfl, _⟩ := z1t Tryz.underlying3 h11
  obtain ⟨x2, rfl, _⟩ := z1t Tryz.underlying3 h12
  obtain ⟨x3, rfl, _⟩ := z1t Tryz.underlying3 h13
  obtain ⟨e, rfl, he⟩ := z5c Tryz.underlying9 h14
  obtain ⟨q, parts, hq', hln, hpp, rfl⟩ := z6d Tryz.underlying32 h15
  obtain ⟨by_, rfl, hby⟩ := z3t (f := z0i) (q := RdI) (fun p hp => ih q (by omega) hp) parts hpp
  refine ⟨.mk k a b w nth u o p l f sk sd se x1 x2 x3 e by_, ?_, ?_⟩
  ·rw [zfc, zul, zxz, List.map_map]; rfl
  ·exact (zh4 _).2 ⟨⟨ha, hb, ho, hp, (show by_.length <= _ by simpa using hln), hu, ⟨hl, hf, hse, he⟩⟩, hby⟩
theorem zri {n : Nat} {ds : List D} (h : z43 Tryz.prog n 36 ds) : ∃ d : EIt, ds = z0k d /\ RdI d.it := by
 obtain ⟨m, rfl, h⟩ := z2y Tryz.underlying36 h
 obtain ⟨d0, r0, rfl, h0, d1, r1, rfl, h1, d2, r2, rfl, h2, d3, r3, rfl, h3, rfl⟩ := h
 obtain ⟨a, rfl, _⟩ := z1t Tryz.underlying3 h0
 obtain ⟨b, rfl, _⟩ := z1t Tryz.underlying3 h1
 obtain ⟨c, rfl, _⟩ := z1t Tryz.underlying3 h2
 obtain ⟨x, rfl, hx⟩ := zo1 _ h3
 refine ⟨⟨a, b, c, x⟩, ?_, hx⟩
 rw [List.append_nil]; rfl
section
variable {H : Type} {enc : TypeId × Value -> H} {W : World} {base : Nat} {r : Reach} {b0 : Nat} {spare : Nat -> Bool} {held : Bool} {v : Value} {d : DataW H} {p : List MemPlace}
theorem rd_unit (hv : Value.okWide Tryz.prog W r b0 27 v) (h : DataW.Trod enc Tryz.prog W base spare held 27 v d p) : ∃ t : T, fitB t = true /\ rel (zbw W) (z17 t) v := by
 obtain ⟨cs, rfl, _⟩ := okWide_struct Tryz.underlying27 hv
 obtain ⟨m, ds, ht, hr⟩ := zty zrh (by decide) h
 obtain ⟨q, rfl, hq⟩ := zfy _ ht
 exact ⟨q, hq, hr⟩
theorem rd_eit (hv : Value.okWide Tryz.prog W r b0 36 v) (h : DataW.Trod enc Tryz.prog W base spare held 36 v d p) : ∃ x : EIt, RdI x.it /\ rel (zbw W) (zm1 x) v := by
 obtain ⟨cs, rfl, _⟩ := okWide_struct Tryz.underlying36 hv
 obtain ⟨m, ds, ht, hr⟩ := zty zrh (by decide) h
 obtain ⟨q, rfl, hq⟩ := zri ht
 exact ⟨q, hq, hr⟩
end
end Go.Proofs.YtppebcifiejplaaGreat.Glue
namespace Go.Proofs.YtppebcifiejplaaGreat
section
open Abs Facts Tr
attribute [local irreducible] awp
set_option maxRecDepth 100000
theorem zij (l : List ByteArray) (hl : l.length <= 1000000) (a i : Int) (k : Nat) (hk : k <= 1000000000000) : PC Tryz.prog 40 [z3i l, .int .i64 a, .int .i64 i, .int .i64 k] (z0q (z52 l a i k)) := by
 refine z1y 2 (by simp only [pureD.pureL, z2v, pureD, Bool.and_self]) (z0x _) (z1w [11] Tryz.func40 rfl (by decide +kernel) z0j (by decide +kernel) (by simp [Tryz.ntmps40]) ?_)
 show awp _ _ (Code.seq _ _) _ _
 repeat' (first | refine zqj ?_ | ((refine zqh fun K J => ?_); (simp (disch := omega) only [go_sem, Nat.reduceBEq, ↓reduceIte, reduceCtorEq, Nat.reduceMul, z3i])) | refine zqa ?_ | (refine J _ ?_; clear J K))
 (refine z37 (fun U st => ∃ (j : _), U = l.length - j /\ st.t 0 = z3i l /\ st.t 1 = .int .i64 a /\ st.t 2 = .int .i64 i /\ st.t 3 = .int .i64 k /\ st.t 9 = .osl 0 j /\ st.t 10 = .int .i64 j /\ st.H 0 = some (.row 113 j ((z52 (l.take j) a i k).flatMap z5z)) /\ (j <= l.length) /\ (1 <= st.nx)) ?_ ?_); rotate_left; (rintro U st ⟨j, rfl, q0, q1, q2, q3, q9, q10, qH0, qp0, qp1⟩); rotate_left
 ·(refine ⟨_, 0, rfl, ?_⟩); (simp (disch := omega) only [go_sem, Nat.reduceBEq, Nat.reduceLeDiff, true_and, and_true, and_self, Int.natCast_zero, z3i])
  try simp [z52]
 by_cases hj : j < l.length
 ·have htk : z52 (l.take (j + 1)) a i k = z52 (l.take j) a i k ++ [⟨l[j], ⟨a, i, ((k + j : Nat) : Int)⟩⟩] := by
   rw [List.take_succ_eq_append_getElem hj, zno, List.length_take, Nat.min_eq_left (by omega)]
  have hw : IntKind.i64.wrap ((k : Int) + j) = ((k + j : Nat) : Int) := by rw [zed (by omega)]; omega
  repeat' (first | refine zqj ?_ | ((first | refine zqh fun K J => ?_ | refine zqr fun K J => ?_); (simp (disch := omega) only [go_sem, Nat.reduceBEq, ↓reduceIte, reduceCtorEq, Nat.reduceAdd, Nat.reduceMul, Nat.reduceLeDiff, q0, q1, q2, q3, q9, q10, qH0, z3i, hw])) | ((refine zqd _ rfl (fun hc => ?_) (fun hc => ?_)) <;> (((try simp only [z03] at hc); (try (exfalso; omega))))) | refine zqa ?_ | refine zqb ?_ | refine zqv ?_ | refine zqy ?_ | (refine J _ ?_; clear J K))
  (refine Exists.intro _ (And.intro ?_ ⟨j + 1, rfl, ?_⟩)); rotate_left; (simp (disch := omega) only [go_sem, Nat.reduceBEq, q0, q1, q2, q3, q9, q10, qH0, true_and, Int.natCast_add, Int.natCast_one, List.flatMap_append, List.flatMap_cons, List.flatMap_nil, List.append_nil, htk, z5z]); rotate_left
  ·omega
  ·omega
 ·repeat' (first | refine zqj ?_ | ((refine zqh fun K J => ?_); (simp (disch := omega) only [go_sem, Nat.reduceBEq, ↓reduceIte, q0, q9, q10, z3i])) | ((refine zqd _ rfl (fun hc => ?_) (fun hc => ?_)) <;> (((try simp only [z03] at hc); (try (exfalso; omega))))) | refine zqc ?_ | refine zqn ?_ | refine zqv ?_ | refine zqz ?_ | refine zqp ?_ | refine zqu (by (simp (disch := omega) only [go_sem]); rfl) rfl ?_ | (refine J _ ?_; clear J K))
  have hj2 : j = l.length := by omega
  subst hj2
  rw [List.take_length] at qH0
  have hl2 : l.length = (z52 l a i k).length := (z85 l a i k).symm
  rw [hl2] at qH0 ⊢
  exact z4h (z22 (l := z52 l a i k) 0 qH0 zdi zh2 (fun _ => rfl) (fun _ => rfl))
theorem zfx (l : List Wd) (hl : l.length <= 1000000) : PC Tryz.prog 106 [z0q l] (z3i (l.map (·.text))) := by
 refine z1y 2 (by simp only [pureD.pureL, z0x, Bool.and_self]) (z2v _) (z1w [5] Tryz.func106 rfl (by decide +kernel) z0j (by decide +kernel) (by simp [Tryz.ntmps106]) ?_)
 show awp _ _ (Code.seq _ _) _ _
 repeat' (first | refine zqj ?_ | ((refine zqh fun K J => ?_); (simp (disch := omega) only [go_sem, Nat.reduceBEq, ↓reduceIte, reduceCtorEq, z0q])) | refine zqa ?_ | (refine J _ ?_; clear J K))
 (refine z37 (fun U st => ∃ (j : _), U = l.length - j /\ st.t 0 = z0q l /\ st.t 3 = .osl 0 j /\ st.t 4 = .int .i64 j /\ st.H 0 = some (.row 9 j (((l.take j).map (·.text)).map D.str)) /\ (j <= l.length) /\ (1 <= st.nx)) ?_ ?_); rotate_left; (rintro U st ⟨j, rfl, q0, q3, q4, qH0, qp0, qp1⟩); rotate_left
 ·(refine ⟨_, 0, rfl, ?_⟩); (simp (disch := omega) only [go_sem, Nat.reduceBEq, Nat.reduceLeDiff, and_self, Int.natCast_zero, List.map_nil, z0q])
 by_cases hj : j < l.length
 ·have htk := List.take_succ_eq_append_getElem hj
  repeat' (first | refine zqj ?_ | ((first | refine zqh fun K J => ?_ | refine zqr fun K J => ?_); (simp (disch := omega) only [go_sem, Nat.reduceBEq, ↓reduceIte, reduceCtorEq, Nat.reduceAdd, Nat.reduceLeDiff, Nat.reduceLT, q0, q3, q4, qH0, z0q])) | ((refine zqd _ rfl (fun hc => ?_) (fun hc => ?_)) <;> (((try simp only [z03] at hc); (try (exfalso; omega))))) | refine zqa ?_ | refine zqb ?_ | refine zqv ?_ | refine zqy ?_ | (refine J _ ?_; clear J K))
  (refine Exists.intro _ (And.intro ?_ ⟨j + 1, rfl, ?_⟩)); rotate_left; (simp (disch := omega) only [go_sem, Nat.reduceBEq, q0, q3, q4, qH0, true_and, Int.natCast_add, Int.natCast_one, List.map_append, List.map_cons, List.map_nil, htk]); rotate_left
  ·omega
  ·omega
 ·repeat' (first | refine zqj ?_ | ((refine zqh fun K J => ?_); (simp (disch := omega) only [go_sem, Nat.reduceBEq, ↓reduceIte, q0, q3, q4, z0q])) | ((refine zqd _ rfl (fun hc => ?_) (fun hc => ?_)) <;> (((try simp only [z03] at hc); (try (exfalso; omega))))) | refine zqc ?_ | refine zqn ?_ | refine zqv ?_ | refine zqz ?_ | refine zqp ?_ | refine zqu (by (simp (disch := omega) only [go_sem]); rfl) rfl ?_ | (refine J _ ?_; clear J K))
  have hj2 : j = l.length := by omega
  subst hj2
  rw [List.take_length] at qH0
  exact z4h (zee (cs := (l.map (·.text)).map D.str) 0 qH0 z7b z84 (by simp) (z1r (fun _ => rfl) _))
namespace Tr
theorem zvd (a i : Int) : ∀ (l : List T) (n m : Nat), (za0 (l.map (z28 a i)) n m).2 = (n + (l.flatMap z09).length, m + (l.map wcT).sum) := by
 intro l
 induction l with
 | nil => intro n m; simp [za0]
 | cons k l ih =>
  intro n m
  simp only [List.map_cons, za0]
  rw [ih, zq7]
  simp only [List.flatMap_cons, List.length_append, List.sum_cons]
  rw [Prod.mk.injEq]
  refine ⟨?_, ?_⟩
  ·show n + cntT k + _ = n + ((z09 k).length + _); unfold cntT; omega
  ·omega
theorem zxe {f g : T -> Nat} : ∀ {l : List T}, (∀ k ∈ l, f k <= g k) -> (l.map f).sum <= (l.map g).sum
 | [], _ => Nat.le_refl _
 | k :: l, h => by
  simp only [List.map_cons, List.sum_cons]
  have := h k (by simp)
  have := zxe (l := l) fun k hk => h k (List.mem_cons_of_mem _ hk)
  omega
theorem zrg (c : Nat) (f : T -> Nat) : ∀ l : List T, (l.map fun k => c * f k).sum = c * (l.map f).sum
 | [] => rfl
 | k :: l => by simp only [List.map_cons, List.sum_cons, zrg c f l, Nat.mul_add]
theorem zks (l : List T) : (l.flatMap z09).length = (l.map cntT).sum := by
 induction l with
 | nil => rfl
 | cons k l ih => rw [List.flatMap_cons, List.length_append, ih, List.map_cons, List.sum_cons]; rfl
theorem wc_le : ∀ t : T, szB t = true -> wcT t <= 2000000 * cntT t := by
 refine z3u fun t ih hs => ?_
 obtain ⟨h0, h1, g1, h2, g2, h3, h4⟩ := (z1l t).1 hs
 rw [zq6, z3w, zks]
 have := zxe (f := wcT) (g := fun k => 2000000 * cntT k) (l := t.kids) fun k hk => ih k hk (h4 k hk)
 rw [zrg] at this
 omega
theorem zmg {f : T -> Nat} (l : List T) (j : Nat) : ((l.take j).map f).sum <= (l.map f).sum := by
 conv => rhs; rw [<- List.take_append_drop j l, List.map_append, List.sum_append]
 omega
end Tr
set_option maxHeartbeats 16000000 in
theorem zny (a i : Int) : ∀ t : T, szB t = true -> ∀ n m : Nat, n + cntT t <= 1000000000 -> m + wcT t <= 1000000000000 ->
  PC Tryz.prog 94 [z17 t, .int .i64 a, .int .i64 i, .int .i64 n, .int .i64 m] (.tup [z17 (z28 a i t n m).1, .int .i64 ((z28 a i t n m).2.1 : Nat), .int .i64 ((z28 a i t n m).2.2 : Nat)]) := by
 refine z3u fun t ih hs n m hn hm => ?_
 obtain ⟨h0, h1, g1, h2, g2, h3, h4⟩ := (z1l t).1 hs
 have hcn := z3w t
 have hwn := zq6 t
 rw [zks] at hcn
 have c1 := zfx t.head h1
 have c2 := zij (t.head.map (·.text)) (by rw [List.length_map]; exact h1) a i m (by omega)
 have c3 := zfx t.words h2
 have c4 := zij (t.words.map (·.text)) (by rw [List.length_map]; exact h2) a i (m + t.head.length) (by omega)
 simp only [z3i, List.map_map] at c1 c2 c3 c4
 have l1 : (z52 (t.head.map (·.text)) a i m).length = t.head.length := by rw [z85, List.length_map]
 have l2 : (z52 (t.words.map (·.text)) a i (m + t.head.length)).length = t.words.length := by rw [z85, List.length_map]
 have w1 : IntKind.i64.wrap ((n : Int) + 1) = ((n + 1 : Nat) : Int) := by rw [zed (by omega)]; omega
 have w2 : IntKind.i64.wrap ((m : Int) + t.head.length) = ((m + t.head.length : Nat) : Int) := by rw [zed (by omega)]; omega
 have w3 : IntKind.i64.wrap (((m + t.head.length : Nat) : Int) + t.words.length) = ((m + t.head.length + t.words.length : Nat) : Int) := by rw [zed (by omega)]; omega
 refine z1y 5 (by simp only [pureD.pureL, z05, pureD, Bool.and_self]) (by simp only [pureD, pureD.pureL, z05, Bool.and_self]) (z1w [49] Tryz.func94 rfl (by decide +kernel) z0j (by decide +kernel) (by simp [Tryz.ntmps94]) ?_)
 show awp _ _ (Code.seq _ _) _ _
 rw [show Tryz.f94.results.toList = [.cell 10 27, .tmp 11, .tmp 12] from rfl]
 rw [show z17 t = .agg _ from by rw [z17, z10]]
 repeat' (first | refine zqj ?_ | ((first | refine z01 (N := 9) rfl fun K J => ?_ | refine zqs (c1) ?_ | refine zqs (c2) ?_ | refine zqs (c3) ?_ | refine zqs (c4) ?_); (simp (disch := omega) only [go_sem, Nat.reduceBEq, ↓reduceIte, reduceCtorEq, Nat.reduceAdd, Nat.reduceMul, Nat.reduceLeDiff, Nat.reduceLT, l1, l2, w1, w2, w3, z0q, List.set_cons_succ, List.set_cons_zero, List.length_map])) | refine zqa ?_ | (refine J _ ?_; clear J K))
 (refine z37 (fun U st => ∃ (j : _), U = t.kids.length - j /\ st.t 1 = .int .i64 a /\ st.t 2 = .int .i64 i /\ st.t 3 = .int .i64 ((za0 ((t.kids.take j).map (z28 a i)) (n + 1) (m + t.head.length + t.words.length)).2.1 : Nat) /\ st.t 4 = .int .i64 ((za0 ((t.kids.take j).map (z28 a i)) (n + 1) (m + t.head.length + t.words.length)).2.2 : Nat) /\ st.t 5 = .ptr 0 0 /\ st.t 10 = .ptr 1 0 /\ st.t 13 = .osl 2 j /\ st.t 14 = .int .i64 j /\ st.H 0 = some (.box 27 [.int .i64 a, .int .i64 i, .int .i64 n, .int .i64 t.kind, .str t.label, z0q (z52 (t.head.map (·.text)) a i m), z0q (z52 (t.words.map (·.text)) a i (m + t.head.length)), z0e t.kids]) /\ st.H 1 = some (.box 27 [.int .i64 0, .int .i64 0, .int .i64 0, .int .i64 0, .str ByteArray.empty, .nil, .nil, .nil]) /\ st.H 2 = some (.row 27 j ((za0 ((t.kids.take j).map (z28 a i)) (n + 1) (m + t.head.length + t.words.length)).1.flatMap z06)) /\ (j <= t.kids.length) /\ (3 <= st.nx)) ?_ ?_); rotate_left; (rintro U st ⟨j, rfl, q1, q2, q3, q4, q5, q10, q13, q14, qH0, qH1, qH2, qp0, qp1⟩); rotate_left
 ·(refine ⟨_, 0, rfl, ?_⟩); (simp (disch := omega) only [go_sem, Nat.reduceBEq, Nat.reduceLeDiff, true_and, and_true, and_self, Int.natCast_add, Int.natCast_one, Int.natCast_zero, List.map_nil, z0q])
  refine ⟨?_, ?_, rfl⟩
  ·show (n : Int) + 1 = ((n + 1 : Nat) : Int)
   omega
  ·show (m : Int) + t.head.length + t.words.length = ((m + t.head.length + t.words.length : Nat) : Int)
   omega
 by_cases hj : j < t.kids.length
 ·have hr := zvd a i (t.kids.take j) (n + 1) (m + t.head.length + t.words.length)
  have htk := List.take_succ_eq_append_getElem hj
  have e1 := zmg (f := cntT) t.kids (j + 1)
  have e2 := zmg (f := wcT) t.kids (j + 1)
  rw [htk, List.map_append, List.sum_append] at e1 e2
  simp only [List.map_cons, List.map_nil, List.sum_cons, List.sum_nil, Nat.add_zero] at e1 e2
  rw [zks] at hr
  have hsn := zic (z28 a i t.kids[j]) ((t.kids.take j).map (z28 a i)) (n + 1) (m + t.head.length + t.words.length)
  have hin := ih t.kids[j] (List.getElem_mem hj) (h4 _ (List.getElem_mem hj)) (za0 ((t.kids.take j).map (z28 a i)) (n + 1) (m + t.head.length + t.words.length)).2.1 (za0 ((t.kids.take j).map (z28 a i)) (n + 1) (m + t.head.length + t.words.length)).2.2 (by rw [hr]; simp only; omega) (by rw [hr]; simp only; omega)
  clear hr e1 e2
  generalize za0 ((t.kids.take j).map (z28 a i)) (n + 1) (m + t.head.length + t.words.length) = R at *
  obtain ⟨R1, R2, R3⟩ := R
  simp only at hin hsn q3 q4 qH2
  generalize hS : z28 a i t.kids[j] R2 R3 = S at *
  obtain ⟨S1, S2, S3⟩ := S
  simp only at hin hsn
  repeat' (first | refine zqj ?_ | ((first | refine zqh fun K J => ?_ | refine zqr fun K J => ?_ | refine zqs (hin) ?_); (simp (disch := omega) only [go_sem, Nat.reduceBEq, ↓reduceIte, reduceCtorEq, Nat.reduceAdd, Nat.reduceMul, Nat.reduceLeDiff, q1, q2, q3, q4, q5, q13, q14, qH0, qH2, z0q, z0e])) | ((refine zqd _ rfl (fun hc => ?_) (fun hc => ?_)) <;> (((try simp only [z03] at hc); (try (exfalso; omega))))) | refine zqa ?_ | refine zqb ?_ | refine zqv ?_ | refine zqy ?_ | (refine J _ ?_; clear J K))
  (refine Exists.intro _ (And.intro ?_ ⟨j + 1, rfl, ?_⟩)); rotate_left; (simp (disch := omega) only [go_sem, Nat.reduceBEq, Nat.reduceLeDiff, q1, q2, q3, q4, q5, q10, q13, q14, qH0, qH1, qH2, true_and, Int.natCast_add, Int.natCast_one, List.flatMap_append, List.flatMap_cons, List.flatMap_nil, List.map_append, List.map_cons, List.map_nil, List.append_nil, htk, hsn, z0q]); rotate_left
  ·omega
  ·omega
 ·repeat' (first | refine zqj ?_ | ((refine zqh fun K J => ?_); (simp (disch := omega) only [go_sem, Nat.reduceBEq, ↓reduceIte, reduceCtorEq, Nat.reduceAdd, Nat.reduceLeDiff, Nat.reduceLT, q3, q4, q5, q10, q13, q14, qH0, qH1, z0e, z0q, List.set_cons_succ, List.set_cons_zero])) | ((refine zqd _ rfl (fun hc => ?_) (fun hc => ?_)) <;> (((try simp only [z03] at hc); (try (exfalso; omega))))) | refine zqc ?_ | refine zqn ?_ | refine zqv ?_ | refine zqz ?_ | refine zqp ?_ | refine zqu (by (simp (disch := omega) only [go_sem, Nat.reduceBEq, ↓reduceIte, Nat.reduceAdd, Nat.reduceLeDiff, q10, qH1]); rfl) rfl ?_ | (refine J _ ?_; clear J K))
  have hj2 : j = t.kids.length := by omega
  subst hj2
  rw [List.take_length] at qH2 ⊢
  have hlen := (z95 a i (fun _ _ => True) t.kids (fun _ _ _ _ => trivial) (n + 1) (m + t.head.length + t.words.length)).1
  have hpr := z86 a i t n m
  unfold zq5 at hpr
  rw [hpr]
  generalize za0 (t.kids.map (z28 a i)) (n + 1) (m + t.head.length + t.words.length) = R at *
  refine z4h (zef 4 (by simp only [pureD.pureL, pureD, Bool.and_false, Bool.false_and]) (z0o (zgy 2 (t := .mk ⟨a, i, (n : Int)⟩ t.kind t.label (z52 (t.head.map (·.text)) a i m) (z52 (t.words.map (·.text)) a i (m + t.head.length)) R.1) (z35 (f := z06) (l := R.1) 1 hlen ?_ z5m z7c z0m z0d) rfl) (z0o (z0p _ rfl) (z0o (z0p _ rfl) z6j))))
  (simp (disch := omega) only [go_sem, Nat.reduceBEq, qH2])
end
end Go.Proofs.YtppebcifiejplaaGreat
namespace Go.Proofs.YtppebcifiejplaaGreat.Abs
theorem z54 {P : Program} {own : List Nat} {a b : Code} {Q : Exit -> St -> Prop} {st : St} (I : St -> Prop) (h2 : awp P own a (zs2 I Q) st) (h1 : ∀ st, I st -> awp P own b Q st) : awp P own (.seq a b) Q st :=
 z5p a _ _ st (zj8 (fun st h => ⟨st, SealTo.refl st, h1 st h⟩) (fun _ _ h => h)) h2
theorem z3n {P : Program} {own : List Nat} {a b c : Code} {Q : Exit -> St -> Prop} {st : St} (I : St -> Prop) (h2 : awp P own (.seq a b) (zs2 I Q) st) (h1 : ∀ st, I st -> awp P own c Q st) : awp P own (.seq a (.seq b c)) Q st :=
 z5p a _ _ st (fun e st h => by
  cases e with
  | normal => obtain ⟨st', hs, h⟩ := h; exact ⟨st', hs, z54 I h h1⟩
  | _ => exact h) h2
theorem z46 {I : St -> Prop} {Q : Exit -> St -> Prop} {st : St} (h : I st) : zs2 I Q .normal st := h
end Go.Proofs.YtppebcifiejplaaGreat.Abs
namespace Go.Proofs.YtppebcifiejplaaGreat
section
open Abs Facts Tr
attribute [local irreducible] awp
set_option maxRecDepth 100000
namespace Tr
theorem zxc {i : Nat} {s : Stp} (h1 : ¬ (i : Int) = 0 \/ zd3 s = false) (h2 : s.kind < 1 \/ 7 < s.kind \/ z3j s.label = false) : okS i s = false := by
 unfold okS ze7
 have a : (decide (i = 0) && zd3 s) = false := by
  rcases h1 with h | h
  ·rw [decide_eq_false (by omega)]; rfl
  ·rw [h, Bool.and_false]
 have b : (decide (1 <= s.kind /\ s.kind <= 7) && z3j s.label) = false := by
  rcases h2 with h | h | h
  ·rw [decide_eq_false (by omega)]; rfl
  ·rw [decide_eq_false (by omega)]; rfl
  ·rw [h, Bool.and_false]
 rw [a, b]; rfl
theorem zm9 {i : Nat} {s : Stp} (h1 : (i : Int) = 0) (h2 : zd3 s = true) : okS i s = true := by
 unfold okS; rw [decide_eq_true (show i = 0 by omega), h2]; rfl
theorem zma {i : Nat} {s : Stp} (h1 : ¬ s.kind < 1) (h2 : ¬ 7 < s.kind) (h3 : z3j s.label = true) : okS i s = true := by
 unfold okS ze7; rw [decide_eq_true (show 1 <= s.kind /\ s.kind <= 7 by omega), h3, Bool.and_true, Bool.or_true]
end Tr
theorem zmb (s : Stp) : PC Tryz.prog 53 [z77 s] (.bool (zd3 s)) := by
 refine z1y 1 rfl rfl (z1w [] Tryz.func53 rfl (by decide +kernel) z0j (by decide +kernel) (by simp [Tryz.ntmps53]) ?_)
 show awp _ _ (Code.seq _ _) _ _
 repeat' (first | ((refine zqh fun K J => ?_); (simp (disch := omega) only [go_sem, Nat.reduceBEq, ↓reduceIte, reduceCtorEq, Nat.reduceAdd])) | refine zqn ?_ | refine zqu (by (simp (disch := omega) only [go_sem]); rfl) rfl ?_ | (refine J _ ?_; clear J K) | (refine zqf (fun hb => ?_) (fun hb => ?_) <;> (have hb2 := hb; try simp only [z03] at hb2) <;> ((first | have F := eq_false hb2 | have F := eq_true hb2); (simp (disch := omega) only [go_sem, Nat.reduceBEq, ↓reduceIte, reduceCtorEq, Nat.reduceAdd, F]); clear hb F; (try (exfalso; omega)))))
 all_goals exact z00 (by unfold zd3 z1j; first | (simp_all; done) | (simp_all; exact decide_eq_decide.2 Iff.rfl))
theorem zkq (p : List Stp) (hl : p.length <= maxLen) (hs : ∀ s ∈ p, s.label.size <= maxLen) : PC Tryz.prog 22 [z0a p] (.bool (z5e p)) := by
 unfold maxLen at hl
 have c1 := fun (i : Nat) (h : i < p.length) => zmb p[i]
 have c2 := fun (i : Nat) (h : i < p.length) => zdg p[i].label (hs _ (List.getElem_mem h))
 refine z1y 1 (by simp only [pureD.pureL, z0r, Bool.and_self]) rfl (z1w [] Tryz.func22 rfl (by decide +kernel) z0j (by decide +kernel) (by simp [Tryz.ntmps22]) ?_)
 show awp _ _ (Code.seq _ _) _ _
 repeat' (first | refine zqj ?_ | ((refine zqh fun K J => ?_); (simp (disch := omega) only [go_sem, Nat.reduceBEq, ↓reduceIte, z0a])) | ((refine zqd _ rfl (fun hc => ?_) (fun hc => ?_)) <;> (((try simp only [z03] at hc); (try (exfalso; omega))))) | refine zqa ?_ | refine zqb ?_ | refine zqg ?_ | refine zqu (by (simp (disch := omega) only [go_sem]); rfl) rfl ?_ | (refine J _ ?_; clear J K))
 ·exact z00 (zu2 (by omega)).symm
 (refine z37 (fun U st => ∃ (k : _), U = p.length - k /\ st.t 0 = z0a p /\ st.t 3 = .int .i64 k /\ (k <= p.length) /\ (p.length <= 9) /\ (∀ i, (hi : i < k) -> (h : i < p.length) -> okS i p[i] = true)) ?_ ?_); rotate_left; (rintro U st ⟨k, rfl, q0, q3, qp0, qp1, qp2⟩); rotate_left
 ·(refine ⟨_, 0, rfl, ?_⟩); (simp (disch := omega) only [go_sem, Nat.reduceBEq, true_and, Int.natCast_zero, z0a])
  exact ⟨by omega, fun i hi => by omega⟩
 by_cases hk : k < p.length
 ·have step : okS k p[k] = true -> ∀ i, (hi : i < k + 1) -> (h : i < p.length) -> okS i p[i] = true := fun hb i hi h => by
   by_cases e : i = k
   ·subst e; exact hb
   ·exact qp2 i (by omega) h
  repeat' (first | refine zqj ?_ | ((first | refine zqh fun K J => ?_ | refine zqr fun K J => ?_ | refine zqs (c1 k hk) ?_ | refine zqs (c2 k hk) ?_); (simp (disch := omega) only [go_sem, Nat.reduceBEq, ↓reduceIte, reduceCtorEq, Nat.reduceAdd, q0, q3, z0a])) | ((first | refine zqd _ rfl (fun hc => ?_) (fun hc => ?_) | refine zqm _ rfl (fun hc => ?_) (fun hc => ?_)) <;> (first | (cases hc; done) | ((try simp only [z03] at hc); (try (exfalso; omega))))) | refine zqa ?_ | refine zqb ?_ | refine zqc ?_ | refine zqk ?_ | refine zqn ?_ | refine zqv ?_ | refine zqx ?_ | refine zqy ?_ | refine zqz ?_ | refine z4a ?_ | refine zqo ?_ | refine zqu (by (simp (disch := omega) only [go_sem]); rfl) rfl ?_ | (refine J _ ?_; clear J K) | (refine zqf (fun hb => ?_) (fun hb => ?_) <;> (have hb2 := hb; try simp only [z03] at hb2) <;> ((first | have F := eq_false hb2 | have F := eq_true hb2); (simp (disch := omega) only [go_sem, Nat.reduceBEq, ↓reduceIte, reduceCtorEq, Nat.reduceAdd, F, q0, q3, z0a]); clear hb F; (try (exfalso; omega)))))
  all_goals first
   | exact z00 (znh hk (zxc (by first | (left; omega) | (right; assumption)) (by first | (left; assumption) | (right; left; assumption) | (right; right; assumption)))).symm
   | skip
  all_goals
   (refine Exists.intro _ (And.intro ?_ ⟨k + 1, rfl, ?_⟩)); rotate_left; (simp (disch := omega) only [go_sem, Nat.reduceBEq, q0, q3, true_and, Int.natCast_add, Int.natCast_one]); rotate_left
   ·omega
   ·exact ⟨by omega, by omega, step (by first | exact zm9 (by omega) (by assumption) | exact zma (by assumption) (by assumption) (by assumption))⟩
 ·repeat' (first | refine zqj ?_ | ((refine zqh fun K J => ?_); (simp (disch := omega) only [go_sem, Nat.reduceBEq, ↓reduceIte, q0, q3, z0a])) | ((refine zqd _ rfl (fun hc => ?_) (fun hc => ?_)) <;> (((try simp only [z03] at hc); (try (exfalso; omega))))) | refine zqc ?_ | refine zqn ?_ | refine zqv ?_ | refine zqz ?_ | refine zqp ?_ | refine zqu (by (simp (disch := omega) only [go_sem]); rfl) rfl ?_ | (refine J _ ?_; clear J K))
  exact z00 (zni (by omega) fun i hi => qp2 i (by omega) hi).symm
theorem zr9 (u : T) (s : Stp) : PC Tryz.prog 96 [z17 u, z77 s] (.bool (atB s u)) := by
 refine z1y 1 (by simp only [pureD.pureL, z05]; rfl) rfl (z1w [] Tryz.func96 rfl (by decide +kernel) z0j (by decide +kernel) (by simp [Tryz.ntmps96]) ?_)
 show awp _ _ (Code.seq _ _) _ _
 repeat' (first | ((refine zqh fun K J => ?_); (simp (disch := omega) only [go_sem, Nat.reduceBEq, ↓reduceIte, reduceCtorEq, Nat.reduceAdd])) | refine zqn ?_ | refine zqu (by (simp (disch := omega) only [go_sem]); rfl) rfl ?_ | (refine J _ ?_; clear J K) | (refine zqf (fun hb => ?_) (fun hb => ?_) <;> (have hb2 := hb; try simp only [z03] at hb2) <;> ((first | have F := eq_false hb2 | have F := eq_true hb2); (simp (disch := omega) only [go_sem, Nat.reduceBEq, ↓reduceIte, reduceCtorEq, Nat.reduceAdd, F]); clear hb F; (try (exfalso; omega)))))
 all_goals exact z00 (by unfold atB; first | (simp_all; done) | (simp_all; exact decide_eq_decide.2 Iff.rfl))
theorem zig : ∀ t : T, szB t = true -> cntT t <= 1000000000 -> PC Tryz.prog 68 [z17 t] (z0e (z09 t)) := by
 refine z3u fun t ih hs hc => ?_
 obtain ⟨h0, h1, g1, h2, g2, h3, h4⟩ := (z1l t).1 hs
 have hce := z3w t
 refine z1y 2 (by simp only [pureD.pureL, z05, Bool.and_self]) (z1e _) (z1w [6] Tryz.func68 rfl (by decide +kernel) z0j (by decide +kernel) (by simp [Tryz.ntmps68]) ?_)
 show awp _ _ (Code.seq _ _) _ _
 repeat' (first | refine zqj ?_ | ((refine zqh fun K J => ?_); (simp (disch := omega) only [go_sem, Nat.reduceBEq, ↓reduceIte, reduceCtorEq, Nat.reduceAdd, Nat.reduceMul, Nat.reduceLeDiff])) | refine zqa ?_ | (refine J _ ?_; clear J K))
 (refine z37 (fun U st => ∃ (i : _), U = t.kids.length - i /\ st.t 1 = .ptr 0 0 /\ st.t 3 = .osl 1 (1 + ((t.kids.take i).flatMap z09).length) /\ st.t 4 = .int .i64 i /\ st.H 0 = some (.box 27 (z06 t)) /\ st.H 1 = some (.row 27 (1 + ((t.kids.take i).flatMap z09).length) ((t :: (t.kids.take i).flatMap z09).flatMap z06)) /\ (i <= t.kids.length) /\ (2 <= st.nx)) ?_ ?_); rotate_left; (rintro U st ⟨i, rfl, q1, q3, q4, qH0, qH1, qp0, qp1⟩); rotate_left
 ·(refine ⟨_, 0, rfl, ?_⟩); (simp (disch := omega) only [go_sem, Nat.reduceBEq, Nat.reduceLeDiff, true_and, and_true, and_self, Int.natCast_zero, List.flatMap_nil, List.append_nil])
  try simp
 have hin := fun (h : i < t.kids.length) => ih t.kids[i] (List.getElem_mem h) (h4 _ (List.getElem_mem h)) (by have := z88 (List.getElem_mem h); omega)
 have hb := z2z t.kids (i + 1)
 by_cases hi : i < t.kids.length
 ·have hsu := z4c t.kids i hi
  have hil : (z09 t.kids[i]).length = cntT t.kids[i] := rfl
  have htk : (t.kids.take (i + 1)).flatMap z09 = (t.kids.take i).flatMap z09 ++ z09 t.kids[i] := by
   rw [List.take_succ_eq_append_getElem hi, List.flatMap_append]; simp
  repeat' (first | refine zqj ?_ | ((first | refine zqh fun K J => ?_ | refine zqr fun K J => ?_ | refine zqs (hin hi) ?_); (simp (disch := omega) only [go_sem, Nat.reduceBEq, ↓reduceIte, reduceCtorEq, Nat.reduceAdd, q1, q3, q4, qH0, qH1, z0e, z4l])) | ((refine zqd _ rfl (fun hc => ?_) (fun hc => ?_)) <;> (((try simp only [z03] at hc); (try (exfalso; omega))))) | refine zqa ?_ | refine zqb ?_ | refine zqv ?_ | refine zqy ?_ | (refine J _ ?_; clear J K))
  (refine Exists.intro _ (And.intro ?_ ⟨i + 1, rfl, ?_⟩)); rotate_left; (simp (disch := omega) only [go_sem, Nat.reduceBEq, q1, q3, q4, qH0, qH1, true_and, Int.natCast_add, Int.natCast_one, List.flatMap_append, List.flatMap_cons, htk, hil, Nat.add_assoc, List.append_assoc]); rotate_left
  ·omega
  ·omega
 ·repeat' (first | refine zqj ?_ | ((refine zqh fun K J => ?_); (simp (disch := omega) only [go_sem, Nat.reduceBEq, ↓reduceIte, reduceCtorEq, Nat.reduceAdd, q1, q3, q4, qH0, z0e])) | ((refine zqd _ rfl (fun hc => ?_) (fun hc => ?_)) <;> (((try simp only [z03] at hc); (try (exfalso; omega))))) | refine zqc ?_ | refine zqn ?_ | refine zqv ?_ | refine zqz ?_ | refine zqp ?_ | refine zqu (by (simp (disch := omega) only [go_sem]); rfl) rfl ?_ | (refine J _ ?_; clear J K))
  have hi2 : i = t.kids.length := by omega
  subst hi2
  rw [List.take_length] at qH1
  rw [List.take_length]
  rw [<- z1x] at qH1
  refine z4h (z35 (f := z06) (l := z09 t) 0 ?_ ?_ z5m z7c z0m z0d)
  ·rw [z1x, List.length_cons]; omega
  ·(simp (disch := omega) only [go_sem, qH1])
theorem znt (a i : Int) (t : T) (hs : szB t = true) (hc : cntT t <= 100000) : PC Tryz.prog 64 [z17 t, .int .i64 a, .int .i64 i] (z17 (z6f a i t)) := by
 have hw := wc_le t hs
 have c1 := zny a i t hs 1 0 (by omega) (by omega)
 refine z1y 3 (by simp only [pureD.pureL, z05, pureD, Bool.and_self]) (z05 _) (z1w [] Tryz.func64 rfl (by decide +kernel) z0j (by decide +kernel) (by simp [Tryz.ntmps64]) ?_)
 show awp _ _ (Code.seq _ _) _ _
 rw [show Tryz.f64.results.toList = [.cell 6 27] from rfl]
 unfold z6f
 generalize z28 a i t 1 0 = r at c1 ⊢
 obtain ⟨x, p, q⟩ := r
 repeat' (first | ((first | refine zqh fun K J => ?_ | refine zqs (c1) ?_); (simp (disch := omega) only [go_sem, Nat.reduceBEq, ↓reduceIte, Nat.reduceAdd, Nat.reduceLeDiff])) | refine zqn ?_ | refine zqu (by (simp (disch := omega) only [go_sem, Nat.reduceBEq, ↓reduceIte, Nat.reduceLeDiff]); rfl) rfl ?_ | (refine J _ ?_; clear J K))
 exact z02 (z05 _) (Le.refl _)
namespace Tr
theorem zif {u x : T} : ((z0c x).any fun i => (z07 i u).2) = (z09 x).any fun k => decide (k.id ∈ z0c u) := by
 unfold z0c
 rw [List.any_map]
 congr 1
 funext k
 show (z07 k.id u).2 = _
 rw [z36]; rfl
end Tr
set_option maxHeartbeats 16000000 in
theorem zkp (u : T) (hst : z0z u = true) (hz : szB u = true) (hc : cntT u <= 1100) (id : Idv) (hm : id ∈ z0c u) (d : EIt) (hw : 0 <= d.it.wh /\ d.it.wh <= 3) (z1 : szB d.it.unit = true) (z2 : cntT d.it.unit <= 1000) (z3 : depT d.it.unit <= 1000) :
  PC Tryz.prog 34 [z17 u, z3h id, zm1 d] (.tup [z17 (zcu u id d.it.wh (z6f d.act d.item d.it.unit)), .int .i64 (z6q u id d.it.wh (z6f d.act d.item d.it.unit))]) := by
 obtain ⟨s1, s2, s3, s4, s5, s6⟩ := (z1f u).1 hst
 have c1 := zae id u hz (by omega)
 have c2 := zdn id u hz (by omega)
 have c3 := znt d.act d.item d.it.unit z1 (by omega)
 have y1 : szB (z6f d.act d.item d.it.unit) = true := zm8 _ _ _ z1 1 0
 have y2 : cntT (z6f d.act d.item d.it.unit) <= 1000 := by unfold z6f; rw [zq8]; exact z2
 have y3 : depT (z6f d.act d.item d.it.unit) <= 1000 := by unfold z6f; rw [zid]; exact z3
 generalize hx : z6f d.act d.item d.it.unit = x at *
 have hdp : z5n id u = ((z5f id u).length : Int) := zrf hm
 have hal : ∀ k, ((z5f k u).length : Int) <= 8 := fun k => by
  unfold z5f
  have := z50 k u
  rw [List.length_reverse, List.length_map, List.length_dropLast]; omega
 have hfz : ∀ k, szB (z07 k u).1 = true := fun k => zbk k u hz
 refine z1y 3 (by simp only [pureD.pureL, z05, zbd, Bool.and_self]; rfl) (by simp only [pureD, pureD.pureL, z05, Bool.and_self]) (z1w [3000110, 3000113, 3000115, 5000116] Tryz.func34 rfl (by decide +kernel) z0j (by decide +kernel) (by simp [Tryz.ntmps34]) ?_)
 show awp _ _ (Code.seq _ _) _ _
 rw [show Tryz.f34.results.toList = [.cell 6 27, .tmp 7] from rfl]
 repeat' (first | refine zqj ?_ | ((first | refine z01 (N := 999) rfl fun K J => ?_ | refine zqs (c1) ?_); (simp (disch := omega) only [go_sem, Nat.reduceBEq, ↓reduceIte, reduceCtorEq, Nat.reduceAdd, Nat.reduceLeDiff, z0e])) | (refine J _ ?_; clear J K))
 (refine z54 (fun st => st.t 3 = .ptr 0 0 /\ st.t 4 = .ptr 1 0 /\ st.t 5 = .ptr 2 0 /\ st.t 6 = .ptr 3 0 /\ st.t 8 = .ptr 4 0 /\ st.t 9 = .int .i64 (z5n id u) /\ st.t 10 = .int .i64 (if d.it.wh = 0 then 0 else ((z07 id u).1.kids.length : Int)) /\ st.H 0 = some (.box 27 (z06 u)) /\ st.H 1 = some (.box 23 (z04 id)) /\ st.H 2 = some (.box 36 (z0k d)) /\ st.H 3 = some (.box 27 [.int .i64 0, .int .i64 0, .int .i64 0, .int .i64 0, .str ByteArray.empty, .nil, .nil, .nil]) /\ st.H 4 = some (.box 27 (z06 (z07 id u).1)) /\ st.nx = 5) ?_ ?_); rotate_left; (rintro st ⟨j3, j4, j5, j6, j8, j9, j10, jH0, jH1, jH2, jH3, jH4, jnx⟩); rotate_left
 ·repeat' (first | ((refine zqr fun K J => ?_); (simp (disch := omega) only [go_sem])) | ((refine zqm _ rfl (fun hc => ?_) (fun hc => ?_)) <;> (((try simp only [z03] at hc); (try (exfalso; omega))))) | refine zqk ?_ | (refine J _ ?_; clear J K))
  all_goals ((refine z46 ?_); (simp (disch := omega) only [go_sem, Nat.reduceBEq, ↓reduceIte, and_self, hc, z04]))
 obtain ⟨P, hP⟩ : ∃ P, P = (z07 (z3c u id d.it.wh) u).1 := ⟨_, rfl⟩
 obtain ⟨n, hn⟩ : ∃ n, n = zct u id d.it.wh := ⟨_, rfl⟩
 obtain ⟨dp, hdp2⟩ : ∃ dp, dp = (z5f (z3c u id d.it.wh) u).length := ⟨_, rfl⟩
 obtain ⟨R, hR⟩ : ∃ R : T × Int, R = (zcu u id d.it.wh x, z6q u id d.it.wh x) := ⟨_, rfl⟩
 rw [show zcu u id d.it.wh x = R.1 from by rw [hR], show z6q u id d.it.wh x = R.2 from by rw [hR]]
 have hR9 : zaa d.it.wh = true -> u.id = id -> R = (u, 9) := fun h1 h2 => by
  have he : z6q u id d.it.wh x = 9 := by unfold z6q; rw [if_pos ⟨h1, h2⟩]
  rw [hR, zcu, he]; rfl
 (refine z54 (fun st => st.t 3 = .ptr 0 0 /\ st.t 4 = .ptr 1 0 /\ st.t 5 = .ptr 2 0 /\ st.t 6 = .ptr 3 0 /\ st.t 8 = .ptr 4 0 /\ st.t 9 = .int .i64 dp /\ st.t 10 = .int .i64 n /\ st.H 0 = some (.box 27 (z06 u)) /\ st.H 1 = some (.box 23 (z04 id)) /\ st.H 2 = some (.box 36 (z0k d)) /\ st.H 3 = some (.box 27 [.int .i64 0, .int .i64 0, .int .i64 0, .int .i64 0, .str ByteArray.empty, .nil, .nil, .nil]) /\ st.H 4 = some (.box 27 (z06 P)) /\ st.nx = 5 /\ (¬ (zaa d.it.wh = true /\ u.id = id)) /\ (n <= P.kids.length)) ?_ ?_); rotate_left; (rintro st ⟨k3, k4, k5, k6, k8, k9, k10, kH0, kH1, kH2, kH3, kH4, knx, kp0, kp1⟩); rotate_left
 ·by_cases hb : zaa d.it.wh = true
  ·have hb2 : d.it.wh = 2 \/ d.it.wh = 3 := of_decide_eq_true hb
   by_cases h1 : u.id = id
   ·rw [hR9 hb h1]
    have hid : decide (id = u.id) = true := decide_eq_true h1.symm
    repeat' (first | refine zqj ?_ | ((refine zqh fun K J => ?_); (simp (disch := omega) only [go_sem, Nat.reduceBEq, ↓reduceIte, reduceCtorEq, Nat.reduceAdd, Nat.reduceLeDiff, j3, j4, j5, j6, jH0, jH1, jH2, jH3, jnx, z04, hid])) | ((first | refine zqd _ rfl (fun hc => ?_) (fun hc => ?_) | refine zqm _ rfl (fun hc => ?_) (fun hc => ?_)) <;> (first | (cases hc; done) | ((try simp only [z03] at hc); (try (exfalso; omega))))) | refine zqg ?_ | refine zqx ?_ | refine zqu (by (simp (disch := omega) only [go_sem, Nat.reduceBEq, ↓reduceIte, Nat.reduceLeDiff, j6, jH3]); rfl) rfl ?_ | (refine J _ ?_; clear J K) | (refine zqf (fun hb => ?_) (fun hb => ?_) <;> (have hb2 := hb; try simp only [z03] at hb2) <;> ((first | have F := eq_false hb2 | have F := eq_true hb2); (simp (disch := omega) only [go_sem, Nat.reduceBEq, ↓reduceIte, reduceCtorEq, Nat.reduceAdd, F, j5, jH2]); clear hb F; (try (exfalso; omega)))))
    all_goals exact z02 (by simp only [pureD, pureD.pureL, z0d, Bool.and_self]) (Le.refl _)
   ·have hid : decide (id = u.id) = false := decide_eq_false (fun e => h1 e.symm)
    obtain ⟨q, l, y, r, e1, e2, e3, e4, e5, n1, n2, e6, _⟩ := zd1 s4 h1 hm
    have hpm : z3c u id d.it.wh = (z2u id u).1 := by unfold z3c; rw [if_pos hb]
    rw [zhp s4 h1 hm, <- hpm, <- hP, <- hdp2, e1] at c2
    have hll : l.length <= 1000000 := by
     have h2 := ((z1l _).1 (hfz q.id)).2.2.2.2.2.1
     rw [e4] at h2
     have h2 : (l ++ y :: r).length <= 1000000 := h2
     rw [List.length_append] at h2; omega
    have hn2 : n = l.length + (if d.it.wh = 2 then 1 else 0) := by rw [hn, zct, if_pos hb, e1]; simp only [Int.toNat_natCast]
    have hPk : P.kids = l ++ y :: r := by
     rw [hP, hpm, e1]
     show (z07 q.id u).1.kids = _
     rw [e4]; rfl
    have hPl : P.kids.length = l.length + (1 + r.length) := by rw [hPk, List.length_append, List.length_cons]; omega
    have hsp : z11 (z06 (z07 id u).1) 0 (z06 P) = z06 P := z1n _ _ (by rw [z0m, z0m])
    rcases hb2 with h2 | h2
    ·rw [if_pos h2] at hn2
     repeat' (first | refine zqj ?_ | ((first | refine zqh fun K J => ?_ | refine zqr fun K J => ?_ | refine zqs (c2) ?_); (simp (disch := omega) only [go_sem, Nat.reduceBEq, ↓reduceIte, reduceCtorEq, Nat.reduceAdd, Nat.reduceLeDiff, Int.reduceEq, j3, j4, j5, j8, j10, jH0, jH1, jH2, jH4, jnx, z04, hid, h2])) | ((first | refine zqd _ rfl (fun hc => ?_) (fun hc => ?_) | refine zqm _ rfl (fun hc => ?_) (fun hc => ?_)) <;> (first | (cases hc; done) | ((try simp only [] at hc); (try (exfalso; omega))))) | refine zqb ?_ | (refine J _ ?_; clear J K))
     (refine z46 ?_); (simp (disch := omega) only [go_sem, Nat.reduceBEq, ↓reduceIte, Int.reduceEq, j3, j4, j5, j6, j8, j9, j10, jH0, jH1, jH2, jH3, jH4, true_and, z04, h2, hsp])
     exact ⟨by omega, fun g => h1 g.2, by omega⟩
    ·rw [if_neg (by omega)] at hn2
     repeat' (first | refine zqj ?_ | ((first | refine zqh fun K J => ?_ | refine zqs (c2) ?_); (simp (disch := omega) only [go_sem, Nat.reduceBEq, ↓reduceIte, reduceCtorEq, Nat.reduceAdd, Nat.reduceLeDiff, Int.reduceEq, j3, j4, j5, j8, jH0, jH1, jH2, jH4, jnx, z04, hid, h2])) | ((first | refine zqd _ rfl (fun hc => ?_) (fun hc => ?_) | refine zqm _ rfl (fun hc => ?_) (fun hc => ?_)) <;> (first | (cases hc; done) | ((try simp only [] at hc); (try (exfalso; omega))))) | refine zqb ?_ | refine zqk ?_ | (refine J _ ?_; clear J K))
     (refine z46 ?_); (simp (disch := omega) only [go_sem, Nat.reduceBEq, ↓reduceIte, Int.reduceEq, j3, j4, j5, j6, j8, j9, j10, jH0, jH1, jH2, jH3, jH4, true_and, z04, h2, hsp])
     exact ⟨by omega, fun g => h1 g.2, by omega⟩
  ·have hb2 : d.it.wh = 0 \/ d.it.wh = 1 := by
    have : ¬ (d.it.wh = 2 \/ d.it.wh = 3) := fun g => hb (decide_eq_true g)
    omega
   have hpm : z3c u id d.it.wh = id := by unfold z3c; rw [if_neg hb]
   rw [hpm] at hP hdp2
   have hn2 : (n : Int) = if d.it.wh = 0 then 0 else ((z07 id u).1.kids.length : Int) := by
    rw [hn, zct, if_neg hb, hpm]; split <;> rfl
   have hdp3 : z5n id u = (dp : Int) := by rw [hdp, hdp2]
   repeat' (first | ((refine zqh fun K J => ?_); (simp (disch := omega) only [go_sem, Nat.reduceBEq, ↓reduceIte, reduceCtorEq, Nat.reduceAdd, j5, jH2])) | ((refine zqm _ rfl (fun hc => ?_) (fun hc => ?_)) <;> (((try simp only [z03] at hc); (try (exfalso; omega))))) | refine zqk ?_ | (refine J _ ?_; clear J K) | (refine zqf (fun hb => ?_) (fun hb => ?_) <;> (have hb2 := hb; try simp only [z03] at hb2) <;> ((first | have F := eq_false hb2 | have F := eq_true hb2); (simp (disch := omega) only [go_sem, Nat.reduceBEq, ↓reduceIte, reduceCtorEq, Nat.reduceAdd, F, j5, jH2]); clear hb F; (try (exfalso; omega)))))
   (refine z46 ?_); (simp (disch := omega) only [go_sem, Nat.reduceBEq, j3, j4, j5, j6, j8, j9, j10, jH0, jH1, jH2, jH3, jH4, jnx, true_and, hdp3, <- hP])
   refine ⟨by rw [hn2, hP], fun g => hb g.1, ?_⟩
   rw [<- hP] at hn2
   split at hn2 <;> omega
 have hPz : szB P = true := by rw [hP]; exact hfz _
 obtain ⟨p0, p1, p2, p3, p4, p5, p6⟩ := (z1l P).1 hPz
 have c4 := zc6 P.kind x.kind
 have c5 := zgx P.kids p5 x.kind x.label
 have c6 := zke x y1 (by omega)
 have c7 := zc7 u hz (by omega)
 have c8 := zc7 x y1 (by omega)
 have c9 := zig x y1 (by omega)
 have c10 := zu1 P.kids p5 n kp1 x
 have hal2 := hal (z3c u id d.it.wh)
 rw [<- hdp2] at hal2
 have hRe : ∀ e, z6q u id d.it.wh x = e -> ¬ e = 0 -> R = (u, e) := fun e h1 h2 => by rw [hR, zcu, h1, if_neg h2]
 have hR0 : z6q u id d.it.wh x = 0 -> R = (z2k (z3c u id d.it.wh) (z5l n x) u, 0) := fun h => by rw [hR, zcu, h, if_pos rfl, hn]
 have hI : z6q u id d.it.wh x = if z20 P.kind x.kind = false then 9 else if z45 P.kids x.kind x.label = true then 10 else
   if 64 <= P.kids.length \/ 8 < dp + 1 + depT x \/ 1024 < cntT u + cntT x then 6 else if ((z0c x).any fun i => (z07 i u).2) = true then 5 else 0 := by
  unfold z6q
  rw [if_neg kp0, <- hP, <- hdp2]
 by_cases g1 : z20 P.kind x.kind = true
 case neg =>
  rw [Bool.not_eq_true] at g1
  rw [if_pos g1] at hI
  rw [hRe 9 hI (by decide)]
  rw [g1] at c4
  repeat' (first | refine zqj ?_ | ((first | refine zqh fun K J => ?_ | refine zqs (c3) ?_ | refine zqs (c4) ?_); (simp (disch := omega) only [go_sem, Nat.reduceBEq, ↓reduceIte, reduceCtorEq, Nat.reduceAdd, Nat.reduceLeDiff, k3, k5, k6, k8, kH0, kH2, kH3, kH4, knx])) | ((refine zqd _ rfl (fun hc => ?_) (fun hc => ?_)) <;> (first | (cases hc; done) | ((try simp only [] at hc); (try (exfalso; omega))))) | refine zqg ?_ | refine zqu (by (simp (disch := omega) only [go_sem, Nat.reduceBEq, ↓reduceIte, Nat.reduceLeDiff, k6, kH3]); rfl) rfl ?_ | (refine J _ ?_; clear J K))
  exact z02 (by simp only [pureD, pureD.pureL, z0d, Bool.and_self]) (Le.refl _)
 rw [if_neg (by rw [g1]; decide)] at hI
 rw [g1] at c4
 by_cases g2 : z45 P.kids x.kind x.label = true
 ·rw [if_pos g2] at hI
  rw [hRe 10 hI (by decide)]
  rw [g2] at c5
  repeat' (first | refine zqj ?_ | ((first | refine zqh fun K J => ?_ | refine zqs (c3) ?_ | refine zqs (c4) ?_ | refine zqs (c5) ?_); (simp (disch := omega) only [go_sem, Nat.reduceBEq, ↓reduceIte, reduceCtorEq, Nat.reduceAdd, Nat.reduceLeDiff, k3, k5, k6, k8, kH0, kH2, kH3, kH4, knx, z0e])) | ((refine zqd _ rfl (fun hc => ?_) (fun hc => ?_)) <;> (first | (cases hc; done) | ((try simp only [] at hc); (try (exfalso; omega))))) | refine zqb ?_ | refine zqg ?_ | refine zqu (by (simp (disch := omega) only [go_sem, Nat.reduceBEq, ↓reduceIte, Nat.reduceLeDiff, k6, kH3]); rfl) rfl ?_ | (refine J _ ?_; clear J K))
  exact z02 (by simp only [pureD, pureD.pureL, z0d, Bool.and_self]) (Le.refl _)
 rw [if_neg g2] at hI
 rw [Bool.not_eq_true] at g2
 rw [g2] at c5
 by_cases g3 : 64 <= P.kids.length \/ 8 < dp + 1 + depT x \/ 1024 < cntT u + cntT x
 ·rw [if_pos g3] at hI
  rw [hRe 6 hI (by decide)]
  repeat' (first | refine zqj ?_ | ((first | refine z01 (N := 18) rfl fun K J => ?_ | refine z1a (N := 18) rfl (by decide +kernel) fun K J => ?_ | refine zqs (c3) ?_ | refine zqs (c4) ?_ | refine zqs (c5) ?_ | refine zqt (c6) ?_ | refine zqt (c7) ?_ | refine zqt (c8) ?_); (simp (disch := omega) only [go_sem, Nat.reduceBEq, Nat.reduceEqDiff, ↓reduceIte, reduceCtorEq, Nat.reduceAdd, Nat.reduceLeDiff, k3, k5, k6, k8, kH0, kH2, kH3, kH4, knx, z0e])) | ((refine zqd _ rfl (fun hc => ?_) (fun hc => ?_)) <;> (first | (cases hc; done) | ((try simp only [z03] at hc); (try (exfalso; omega))))) | refine zqb ?_ | refine zqg ?_ | refine zqu (by (simp (disch := omega) only [go_sem, Nat.reduceBEq, ↓reduceIte, Nat.reduceLeDiff, k6, kH3]); rfl) rfl ?_ | (refine J _ ?_; clear J K) | (refine zqf (fun hb => ?_) (fun hb => ?_) <;> (have hb2 := hb; try simp only [z03] at hb2) <;> ((first | have F := eq_false hb2 | have F := eq_true hb2); (simp (disch := omega) only [go_sem, Nat.reduceBEq, Nat.reduceEqDiff, ↓reduceIte, Nat.reduceAdd, Nat.reduceLeDiff, F, k3, k9, kH0]); clear hb F; (try (exfalso; omega)))))
  all_goals exact z02 (by simp only [pureD, pureD.pureL, z0d, Bool.and_self]) (Le.refl _)
 rw [if_neg g3] at hI
 repeat' (first | refine zqj ?_ | ((first | refine z01 (N := 18) rfl fun K J => ?_ | refine z1a (N := 18) rfl (by decide +kernel) fun K J => ?_ | refine zqs (c3) ?_ | refine zqs (c4) ?_ | refine zqs (c5) ?_ | refine zqt (c6) ?_ | refine zqt (c7) ?_ | refine zqt (c8) ?_); (simp (disch := omega) only [go_sem, Nat.reduceBEq, Nat.reduceEqDiff, ↓reduceIte, reduceCtorEq, Nat.reduceAdd, Nat.reduceLeDiff, k5, k8, kH2, kH4, knx, z0e])) | ((refine zqd _ rfl (fun hc => ?_) (fun hc => ?_)) <;> (first | (cases hc; done) | ((try simp only [z03] at hc); (try (exfalso; omega))))) | refine zqb ?_ | (refine J _ ?_; clear J K) | (refine zqf (fun hb => ?_) (fun hb => ?_) <;> (have hb2 := hb; try simp only [z03] at hb2) <;> ((first | have F := eq_false hb2 | have F := eq_true hb2); (simp (disch := omega) only [go_sem, Nat.reduceBEq, Nat.reduceEqDiff, ↓reduceIte, Nat.reduceAdd, Nat.reduceLeDiff, F, k3, k9, kH0]); clear hb F; (try (exfalso; omega)))))
 repeat' (first | refine zqj ?_ | ((first | refine z01 (N := 20) rfl fun K J => ?_ | refine zqs (c9) ?_); (simp (disch := omega) only [go_sem, Nat.reduceBEq, ↓reduceIte, Nat.reduceAdd, Nat.reduceLeDiff])) | refine zqa ?_ | (refine J _ ?_; clear J K))
 have hlen : (z09 x).length <= 1000 := y2
 (refine z37 (fun U st => ∃ (i : _), U = (z09 x).length - i /\ st.t 3 = .ptr 0 0 /\ st.t 6 = .ptr 3 0 /\ st.t 8 = .ptr 4 0 /\ st.t 10 = .int .i64 n /\ st.t 11 = .ptr 5 0 /\ st.t 12 = z0e (z09 x) /\ st.t 13 = .int .i64 i /\ st.H 0 = some (.box 27 (z06 u)) /\ st.H 3 = some (.box 27 [.int .i64 0, .int .i64 0, .int .i64 0, .int .i64 0, .str ByteArray.empty, .nil, .nil, .nil]) /\ st.H 4 = some (.box 27 (z06 P)) /\ st.H 5 = some (.box 27 (z06 x)) /\ (i <= (z09 x).length) /\ (6 <= st.nx) /\ (∀ j, (hj : j < i) -> (h : j < (z09 x).length) -> ¬ (z09 x)[j].id ∈ z0c u)) ?_ ?_); rotate_left; (rintro U st ⟨i, rfl, q3, q6, q8, q10, q11, q12, q13, qH0, qH3, qH4, qH5, qp0, qp1, qp2⟩); rotate_left
 ·(refine ⟨_, 0, rfl, ?_⟩); (simp (disch := omega) only [go_sem, Nat.reduceBEq, Nat.reduceLeDiff, k3, k6, k8, k10, kH0, kH3, kH4, true_and, Int.natCast_zero])
  exact fun j hj => by omega
 by_cases hi : i < (z09 x).length
 ·have c11 := zae (z09 x)[i].id u hz (by omega)
  by_cases hin : (z09 x)[i].id ∈ z0c u
  ·have h1 : ((z0c x).any fun i => (z07 i u).2) = true := by
    rw [zif, List.any_eq_true]
    exact ⟨_, List.getElem_mem hi, decide_eq_true hin⟩
   rw [if_pos h1] at hI
   rw [hRe 5 hI (by decide)]
   have hd0 : 0 <= z5n (z09 x)[i].id u := zh8.2 (z3g.2 hin)
   repeat' (first | refine zqj ?_ | ((first | refine zqh fun K J => ?_ | refine zqe (by decide +kernel) fun K J => ?_ | refine zqt (c11) ?_); (simp (disch := omega) only [go_sem, Nat.reduceBEq, Nat.reduceEqDiff, ↓reduceIte, reduceCtorEq, Nat.reduceAdd, Nat.reduceLeDiff, q3, q6, q12, q13, qH0, qH3, z0e])) | ((first | refine zqd _ rfl (fun hc => ?_) (fun hc => ?_) | refine zqm _ rfl (fun hc => ?_) (fun hc => ?_)) <;> (((try simp only [z03] at hc); (try (exfalso; omega))))) | refine zqa ?_ | refine zqb ?_ | refine zqn ?_ | refine zqx ?_ | refine z4a ?_ | refine zqo ?_ | refine zqu (by (simp (disch := omega) only [go_sem, Nat.reduceBEq, ↓reduceIte, Nat.reduceLeDiff, q6, qH3]); rfl) rfl ?_ | (refine J _ ?_; clear J K))
   exact z02 (by simp only [pureD, pureD.pureL, z0d, Bool.and_self]) (Le.refl _)
  ·have hd0 := zme hin
   rw [hd0] at c11
   repeat' (first | refine zqj ?_ | ((first | refine zqh fun K J => ?_ | refine zqe (by decide +kernel) fun K J => ?_ | refine zqr fun K J => ?_ | refine zqt (c11) ?_); (simp (disch := omega) only [go_sem, Nat.reduceBEq, Nat.reduceEqDiff, ↓reduceIte, reduceCtorEq, Nat.reduceAdd, Nat.reduceLeDiff, Int.reduceLE, q3, q12, q13, qH0, z0e])) | ((first | refine zqd _ rfl (fun hc => ?_) (fun hc => ?_) | refine zqm _ rfl (fun hc => ?_) (fun hc => ?_)) <;> (first | (cases hc; done) | ((try simp only [z03] at hc); (try (exfalso; omega))))) | refine zqa ?_ | refine zqb ?_ | refine zqk ?_ | refine zqv ?_ | refine zqy ?_ | (refine J _ ?_; clear J K))
   (refine Exists.intro _ (And.intro ?_ ⟨i + 1, rfl, ?_⟩)); rotate_left; (simp (disch := omega) only [go_sem, Nat.reduceBEq, Nat.reduceLeDiff, q3, q6, q8, q10, q11, q12, q13, qH0, qH3, qH4, qH5, true_and, Int.natCast_add, Int.natCast_one]); rotate_left
   ·omega
   ·refine ⟨by omega, by omega, fun j hj h => ?_⟩
    by_cases e : j = i
    ·subst e; exact hin
    ·exact qp2 j (by omega) h
 ·have h1 : ¬ ((z0c x).any fun i => (z07 i u).2) = true := by
   rw [zif, List.any_eq_true]
   rintro ⟨k, hk, he⟩
   obtain ⟨j, hj, rfl⟩ := List.getElem_of_mem hk
   exact qp2 j (by omega) hj (of_decide_eq_true he)
  rw [if_neg h1] at hI
  rw [hR0 hI]
  obtain ⟨_, l2, _⟩ := znj s4 hm hw hI
  have hfid : P.id = z3c u id d.it.wh := by
   obtain ⟨_, _, h2, _⟩ := focus (z3c u id d.it.wh) u l2
   rw [hP]; exact h2
  have hfP : z07 (z3c u id d.it.wh) u = (P, true) := by
   rw [hP]
   exact Prod.ext rfl (za1 l2)
  rw [<- z9k s4 hfP]
  have c12 := zfd (z5l n x P) u hz
  rw [show (z5l n x P).id = z3c u id d.it.wh from hfid] at c12
  rw [show z17 (z5l n x P) = .agg [.int .i64 P.id.act, .int .i64 P.id.item, .int .i64 P.id.n, .int .i64 P.kind, .str P.label, z0q P.head, z0q P.words, z0e (P.kids.take n ++ x :: P.kids.drop n)] from by rw [z17, z10]; rfl] at c12
  simp only [z10 P] at qH4
  repeat' (first | refine zqj ?_ | ((first | refine zqh fun K J => ?_ | refine zqs (c10) ?_ | refine zqs (c12) ?_); (simp (disch := omega) only [go_sem, Nat.reduceBEq, ↓reduceIte, reduceCtorEq, Nat.reduceAdd, Nat.reduceLeDiff, Nat.reduceLT, q3, q6, q8, q10, q11, q12, q13, qH0, qH3, qH4, qH5, z0e, List.set_cons_succ, List.set_cons_zero])) | ((refine zqd _ rfl (fun hc => ?_) (fun hc => ?_)) <;> (((try simp only [z03] at hc); (try (exfalso; omega))))) | refine zqc ?_ | refine zqn ?_ | refine zqv ?_ | refine zqz ?_ | refine zqp ?_ | refine zqu (by (simp (disch := omega) only [go_sem, Nat.reduceBEq, ↓reduceIte, Nat.reduceLeDiff, q6, qH3]); rfl) rfl ?_ | (refine J _ ?_; clear J K))
  exact z02 (by simp only [pureD, pureD.pureL, z0d, Bool.and_self]) (Le.refl _)
theorem zfp (x : D) (l : List D) : zku (x :: l) 0 = some x := by simp [zku]
theorem zb8 {L : List T} {s : Stp} {i : Nat} (hi : i < L.length) (j : Nat) : ((L.take i).flatMap (fun x => x.kids.filter (atB s)) ++ (L[i].kids.take j).filter (atB s)).length <= (z1u L s).length := by
 have e : L = L.take i ++ L[i] :: L.drop (i + 1) := by rw [<- List.drop_eq_getElem_cons hi, List.take_append_drop]
 have h1 : (z1u L s).length = ((L.take i).flatMap (fun x => x.kids.filter (atB s))).length + ((L[i].kids.filter (atB s)).length + ((L.drop (i + 1)).flatMap (fun x => x.kids.filter (atB s))).length) := by
  unfold z1u
  conv => lhs; rw [e]
  rw [List.flatMap_append, List.flatMap_cons, List.length_append, List.length_append]
 have h2 : ((L[i].kids.take j).filter (atB s)).length <= (L[i].kids.filter (atB s)).length := ((List.take_sublist _ _).filter _).length_le
 rw [h1, List.length_append]; omega
theorem z3k (l : List T) (n : Nat) (hn : n = l.length) : z1k true 8 n (l.flatMap z06) = l.map z17 := by
 subst hn; exact z98 (f := z06) (sz := 8) z0m l
theorem z47 (l : List T) : pureD.pureL (l.flatMap z06) = true := z5r z0d l
theorem ztl (u : T) (hs : szB u = true) (hc : cntT u <= 1100) (p : List Stp) (hl : p.length <= maxLen) (hps : ∀ s ∈ p, s.label.size <= maxLen) : PC Tryz.prog 72 [z17 u, z0a p] (z0e (z2j u p)) := by
 have c1 := zkq p hl hps
 have hc0 := hc
 have hn0 : (z09 u).length <= 1100 := hc
 refine z1y 2 (by simp only [pureD.pureL, z05, z0r, Bool.and_self]) (z1e _) (z1w [20, 58] Tryz.func72 rfl (by decide +kernel) z0j (by decide +kernel) (by simp [Tryz.ntmps72]) ?_)
 show awp _ _ (Code.seq _ _) _ _
 by_cases hv : z5e p = true
 ·rw [hv] at c1
  have h9 := (zu3 hv).1
  unfold z2j
  rw [if_pos hv]
  cases p with
  | nil =>
   repeat' (first | refine zqj ?_ | ((first | refine zqh fun K J => ?_ | refine zqs (c1) ?_); (simp (disch := omega) only [go_sem, Nat.reduceBEq, ↓reduceIte, reduceCtorEq, Nat.reduceAdd, Nat.reduceMul, Nat.reduceLeDiff, z0a])) | ((refine zqd _ rfl (fun hc => ?_) (fun hc => ?_)) <;> (first | (cases hc; done) | ((try simp only [decide_eq_true_eq] at hc); (try (exfalso; omega))))) | refine zqb ?_ | refine zqg ?_ | refine zqu (by (simp (disch := omega) only [go_sem]); rfl) rfl ?_ | (refine J _ ?_; clear J K))
   refine z02 ?_ Le.rsl
   show pureD (.rsl true 8 [.agg (z06 u)]) = true
   simp only [pureD, pureD.pureL, z0d, Bool.and_self]
  | cons s r =>
   have c2 := zmb s
   have c3 := zig u hs (by omega)
   have hlen : (s :: r).length = r.length + 1 := rfl
   have hz : Int.toNat 0 = 0 := rfl
   simp only [List.length_cons] at h9
   repeat' (first | refine zqj ?_ | ((first | refine z01 (N := 14) rfl fun K J => ?_ | refine zqs (c1) ?_ | refine zqs (c2) ?_ | refine zqs (c3) ?_); (simp (disch := omega) only [go_sem, Nat.reduceBEq, ↓reduceIte, reduceCtorEq, Nat.reduceAdd, Nat.reduceMul, Nat.reduceLeDiff, z0a, List.map_cons, List.length_cons, zfp])) | ((refine zqd _ rfl (fun hc => ?_) (fun hc => ?_)) <;> (first | (cases hc; done) | ((try simp only [decide_eq_false_iff_not] at hc); (try (exfalso; omega))))) | refine zqa ?_ | refine zqb ?_ | (refine J _ ?_; clear J K))
   ·have hft : z15 u s = [u] := if_pos (by assumption)
    (refine z1c (fun st => st.t 1 = z0a (s :: r) /\ st.t 5 = .osl 1 (z15 u s).length /\ st.H 1 = some (.row 27 (z15 u s).length ((z15 u s).flatMap z06)) /\ (2 <= st.nx)) ?_ ?_); rotate_left; (rintro st ⟨p1, p5, pH1, pp0⟩); rotate_left
    ·(simp (disch := omega) only [go_sem, Nat.reduceBEq, Nat.reduceLeDiff, and_self, z0a, hft, List.map_cons, List.length_cons, List.length_nil, List.flatMap_cons, List.flatMap_nil, List.append_nil])
    clear hft
    refine z5a fun K J => ?_
    (try (simp (disch := omega) only [go_sem])); repeat' skip
    refine J _ _ (za7 (P := Tryz.prog) (id := 1) (e := 27) (k := (z15 u s).length) (cs := (z15 u s).flatMap z06) (by (simp (disch := omega) only [go_sem, pH1])) (by decide +kernel) (z47 _)) ?_
    clear J K
    have v0 : z1k true 8 (z15 u s).length ((z15 u s).flatMap z06) = (z15 u s).map z17 := z3k _ _ rfl
    repeat' (refine zqa ?_)
    (refine z37 (fun U st => ∃ (k : _) (L : List T), U = r.length + 1 - k /\ st.t 1 = z0a (s :: r) /\ st.t 5 = .rsl false 8 (L.map z17) /\ st.t 8 = .int .i64 k /\ (1 <= k) /\ (k <= r.length + 1) /\ (L = (r.take (k - 1)).foldl z1u (z15 u s))) ?_ ?_); rotate_left; (rintro U st ⟨k, L, rfl, t1, t5, t8, tp0, tp1, tp2⟩); rotate_left
    ·(refine ⟨_, 1, z15 u s, rfl, ?_⟩); (simp (disch := omega) only [go_sem, Nat.reduceBEq, Nat.reduceLeDiff, p1, p5, true_and, Int.natCast_one, v0])
     exact ⟨rfl, rfl⟩
    have hLw : z91 L <= 1210000 := by rw [tp2]; exact z79 _ _ (z78 hc0)
    by_cases hk : k < r.length + 1
    ·obtain ⟨sk, hsk⟩ : ∃ sk, sk = (s :: r)[k]'hk := ⟨_, rfl⟩
     have hrk : (s :: r)[k]'hk = r[k - 1]'(by omega) := by rw [List.getElem_cons, dif_neg (by omega)]
     have hLn : (z1u L sk).length <= 1210000 := Nat.le_trans (z5t _) (Nat.le_trans (z92 _ _) hLw)
     have hLl : L.length <= 1210000 := Nat.le_trans (z5t _) hLw
     have hLm : ∀ x ∈ L, x ∈ z09 u := by rw [tp2]; exact z9j _ _ z93
     have hix : zku (.agg [.int .i64 s.kind, .str s.label] :: r.map z77) (k : Int) = some (.agg [.int .i64 sk.kind, .str sk.label]) := by
      unfold zku
      rw [if_pos ⟨by omega, by rw [List.length_cons, List.length_map]; omega⟩, Int.toNat_natCast]
      show ((s :: r).map z77)[k]? = some (z77 sk)
      rw [List.getElem?_map, List.getElem?_eq_getElem hk, hsk]; rfl
     repeat' (first | refine zqj ?_ | ((refine zqh fun K J => ?_); (simp (disch := omega) only [go_sem, Nat.reduceBEq, ↓reduceIte, reduceCtorEq, Nat.reduceMul, t1, t8, z0a, List.length_cons])) | ((refine zqd _ rfl (fun hc => ?_) (fun hc => ?_)) <;> (((try simp only [z03] at hc); (try (exfalso; omega))))) | refine zqa ?_ | refine zqb ?_ | (refine J _ ?_; clear J K))
     (refine z37 (fun U st => ∃ (i : _) (m : Nat), U = L.length - i /\ st.t 1 = z0a (s :: r) /\ st.t 5 = .rsl false 8 (L.map z17) /\ st.t 8 = .int .i64 k /\ st.t 9 = .osl m ((L.take i).flatMap (fun x => x.kids.filter (atB sk))).length /\ st.t 10 = .int .i64 i /\ st.H (m) = some (.row 27 ((L.take i).flatMap (fun x => x.kids.filter (atB sk))).length (((L.take i).flatMap (fun x => x.kids.filter (atB sk))).flatMap z06)) /\ (i <= L.length) /\ (m < st.nx)) ?_ ?_); rotate_left; (rintro U st ⟨i, m, rfl, v1, v5, v8, v9, v10, vHm, vp0, vp1⟩); rotate_left
     ·(refine ⟨_, 0, st.nx, rfl, ?_⟩); (simp (disch := omega) only [go_sem, Nat.reduceBEq, t1, t5, t8, true_and, Int.natCast_add, Int.natCast_one, Int.natCast_zero, List.flatMap_nil, z0a])
      omega
     by_cases hi : i < L.length
     ·have hkl : L[i].kids.length <= 1000000 := (z6a (z7d u hs _ (hLm _ (List.getElem_mem hi)))).1
      repeat' (first | refine zqj ?_ | ((refine zqh fun K J => ?_); (simp (disch := omega) only [go_sem, Nat.reduceBEq, ↓reduceIte, v5, v10])) | ((refine zqd _ rfl (fun hc => ?_) (fun hc => ?_)) <;> (((try simp only [z03] at hc); (try (exfalso; omega))))) | refine zqa ?_ | refine zqi ?_ | refine zqb ?_ | (refine J _ ?_; clear J K))
      (refine z37 (fun U st => ∃ (j : _), U = L[i].kids.length - j /\ st.t 1 = z0a (s :: r) /\ st.t 5 = .rsl false 8 (L.map z17) /\ st.t 8 = .int .i64 k /\ st.t 9 = .osl m ((L.take i).flatMap (fun x => x.kids.filter (atB sk)) ++ (L[i].kids.take j).filter (atB sk)).length /\ st.t 10 = .int .i64 i /\ st.t 11 = .int .i64 j /\ st.H (m) = some (.row 27 ((L.take i).flatMap (fun x => x.kids.filter (atB sk)) ++ (L[i].kids.take j).filter (atB sk)).length (((L.take i).flatMap (fun x => x.kids.filter (atB sk)) ++ (L[i].kids.take j).filter (atB sk)).flatMap z06)) /\ (j <= L[i].kids.length) /\ (m < st.nx)) ?_ ?_); rotate_left; (rintro U st ⟨j, rfl, w1, w5, w8, w9, w10, w11, wHm, wp0, wp1⟩); rotate_left
      ·(refine ⟨_, 0, rfl, ?_⟩); (simp (disch := omega) only [go_sem, Nat.reduceBEq, v1, v5, v8, v9, v10, vHm, true_and, Int.natCast_zero, List.append_nil, z0a, List.take_zero, List.filter_nil])
       omega
      have hpt := zb8 (s := sk) hi j
      rw [List.length_append] at hpt
      by_cases hj : j < L[i].kids.length
      ·have c5 := zr9 L[i].kids[j] sk
       have htk := List.take_succ_eq_append_getElem hj
       have hkk : k < (s :: r).length := hk
       repeat' (first | refine zqj ?_ | ((first | refine zqh fun K J => ?_ | refine zqe (by decide +kernel) fun K J => ?_ | refine zqr fun K J => ?_ | refine zqt (c5) ?_); (simp (disch := omega) only [go_sem, Nat.reduceBEq, Nat.reduceEqDiff, ↓reduceIte, reduceCtorEq, Nat.reduceAdd, Nat.reduceMul, Nat.reduceLeDiff, w1, w5, w8, w9, w10, w11, wHm, z0a, z0e, hix])) | ((first | refine zqd _ rfl (fun hc => ?_) (fun hc => ?_) | refine zqm _ rfl (fun hc => ?_) (fun hc => ?_)) <;> (((try simp only [z03] at hc); (try (exfalso; omega))))) | refine zqa ?_ | refine zqb ?_ | refine zqk ?_ | refine zqv ?_ | refine zqy ?_ | (refine J _ ?_; clear J K))
       ·have htf : (L[i].kids.take (j + 1)).filter (atB sk) = (L[i].kids.take j).filter (atB sk) ++ [L[i].kids[j]] := by
         rw [htk, List.filter_append, List.filter_cons, if_pos (by assumption)]; rfl
        (refine Exists.intro _ (And.intro ?_ ⟨j + 1, rfl, ?_⟩)); rotate_left; (simp (disch := omega) only [go_sem, Nat.reduceBEq, w1, w5, w8, w9, w10, w11, wHm, true_and, Int.natCast_add, Int.natCast_one, List.flatMap_append, List.flatMap_cons, List.flatMap_nil, List.append_nil, htf, List.length_append, List.length_cons, List.length_nil, Nat.add_assoc, List.append_assoc]); rotate_left
        ·omega
        ·omega
       ·have htf : (L[i].kids.take (j + 1)).filter (atB sk) = (L[i].kids.take j).filter (atB sk) := by
         rw [htk, List.filter_append, List.filter_cons, if_neg (by rw [‹atB sk L[i].kids[j] = false›]; simp), List.filter_nil, List.append_nil]
        (refine Exists.intro _ (And.intro ?_ ⟨j + 1, rfl, ?_⟩)); rotate_left; (simp (disch := omega) only [go_sem, Nat.reduceBEq, w1, w5, w8, w9, w10, w11, wHm, true_and, Int.natCast_add, Int.natCast_one, List.flatMap_append, htf]); rotate_left
        ·omega
        ·omega
      ·repeat' (first | refine zqj ?_ | ((first | refine zqh fun K J => ?_ | refine zqr fun K J => ?_); (simp (disch := omega) only [go_sem, Nat.reduceBEq, ↓reduceIte, reduceCtorEq, Nat.reduceAdd, w5, w10, w11, z0e])) | ((refine zqd _ rfl (fun hc => ?_) (fun hc => ?_)) <;> (((try simp only [z03] at hc); (try (exfalso; omega))))) | refine zqc ?_ | refine zqv ?_ | refine zqy ?_ | refine zqz ?_ | refine zqp ?_ | (refine J _ ?_; clear J K))
       have hj2 : L[i].kids.take j = L[i].kids := List.take_of_length_le (by omega)
       have htk : (L.take (i + 1)).flatMap (fun x => x.kids.filter (atB sk)) = (L.take i).flatMap (fun x => x.kids.filter (atB sk)) ++ L[i].kids.filter (atB sk) := by
        rw [List.take_succ_eq_append_getElem hi, List.flatMap_append, List.flatMap_cons, List.flatMap_nil, List.append_nil]
       rw [hj2, <- htk] at w9 wHm
       (refine Exists.intro _ (And.intro ?_ ⟨i + 1, m, rfl, ?_⟩)); rotate_left; (simp (disch := omega) only [go_sem, Nat.reduceBEq, w1, w5, w8, w9, w10, wHm, true_and, Int.natCast_add, Int.natCast_one]); rotate_left
       ·omega
       ·omega
     ·skip
      repeat' (first | refine zqj ?_ | ((refine z01 (N := 26) rfl fun K J => ?_); (simp (disch := omega) only [go_sem, Nat.reduceBEq, ↓reduceIte, v5, v10])) | ((refine zqd _ rfl (fun hc => ?_) (fun hc => ?_)) <;> (((try simp only [z03] at hc); (try (exfalso; omega))))) | refine zqc ?_ | refine zqv ?_ | refine zqz ?_ | refine zqp ?_ | (refine J _ ?_; clear J K))
      have hi2 : L.take i = L := List.take_of_length_le (by omega)
      have hnx : (r.take (k + 1 - 1)).foldl z1u (z15 u s) = z1u L sk := by
       rw [tp2, show k + 1 - 1 = k - 1 + 1 from by omega, List.take_succ_eq_append_getElem (by omega), List.foldl_append, hsk, hrk]; rfl
      rw [hi2] at v9 vHm
      have hnt : L.flatMap (fun x => x.kids.filter (atB sk)) = z1u L sk := rfl
      rw [hnt] at v9 vHm
      have g1 : z1k true 8 (z1u L sk).length ((z1u L sk).flatMap z06) = (z1u L sk).map z17 := z3k _ _ rfl
      refine zqr fun K J => ?_
      (simp (disch := omega) only [go_sem, Nat.reduceBEq, v9])
      refine J _ ?_
      clear J K
      refine zqy (zaw _ (za7 (P := Tryz.prog) (id := m) (e := 27) (k := (z1u L sk).length) (cs := (z1u L sk).flatMap z06) (by (simp (disch := omega) only [go_sem, vHm])) (by decide +kernel) (z47 _)) ?_)
      repeat' (first | ((refine zqr fun K J => ?_); (simp (disch := omega) only [go_sem, Nat.reduceBEq, ↓reduceIte, v8, g1])) | (refine J _ ?_; clear J K))
      (refine Exists.intro _ (And.intro ?_ ⟨k + 1, z1u L sk, rfl, ?_⟩)); rotate_left; (simp (disch := omega) only [go_sem, Nat.reduceBEq, Nat.reduceLeDiff, v1, v5, v8, true_and, Int.natCast_add, Int.natCast_one, g1]); rotate_left
      ·omega
      ·exact ⟨rfl, by omega, hnx.symm⟩
    ·skip
     repeat' (first | refine zqj ?_ | ((refine zqh fun K J => ?_); (simp (disch := omega) only [go_sem, Nat.reduceBEq, ↓reduceIte, t1, t5, t8, z0a, List.length_cons])) | ((refine zqd _ rfl (fun hc => ?_) (fun hc => ?_)) <;> (((try simp only [z03] at hc); (try (exfalso; omega))))) | refine zqc ?_ | refine zqn ?_ | refine zqv ?_ | refine zqz ?_ | refine zqp ?_ | refine zqu (by (simp (disch := omega) only [go_sem]); rfl) rfl ?_ | (refine J _ ?_; clear J K))
     have hk2 : k = r.length + 1 := by omega
     subst hk2
     rw [Nat.add_sub_cancel, List.take_length] at tp2
     rw [goT, <- tp2]
     exact z02 (z1e L) (Le.refl _)
   ·have hft : z15 u s = (z09 u).filter (atB s) := if_neg (by rw [‹zd3 s = false›]; simp)
    (refine z37 (fun U st => ∃ (i : _), U = (z09 u).length - i /\ st.t 1 = z0a (s :: r) /\ st.t 5 = .osl 1 (((z09 u).take i).filter (atB s)).length /\ st.t 6 = z0e (z09 u) /\ st.t 7 = .int .i64 i /\ st.H 1 = some (.row 27 (((z09 u).take i).filter (atB s)).length ((((z09 u).take i).filter (atB s)).flatMap z06)) /\ (i <= (z09 u).length) /\ (2 <= st.nx)) ?_ ?_); rotate_left; (rintro U st ⟨i, rfl, q1, q5, q6, q7, qH1, qp0, qp1⟩); rotate_left
    ·(refine ⟨_, 0, rfl, ?_⟩); (simp (disch := omega) only [go_sem, Nat.reduceBEq, Nat.reduceLeDiff, true_and, and_true, and_self, Int.natCast_add, Int.natCast_one, Int.natCast_zero, z0a, List.map_cons])
     exact ⟨rfl, rfl⟩
    by_cases hi : i < (z09 u).length
    ·have c4 := zr9 (z09 u)[i] s
     have htk := List.take_succ_eq_append_getElem hi
     have hfl : (((z09 u).take i).filter (atB s)).length <= 1100 := by
      have := List.length_filter_le (atB s) ((z09 u).take i)
      have h2 : ((z09 u).take i).length <= (z09 u).length := by rw [List.length_take]; omega
      unfold cntT at *; omega
     repeat' (first | refine zqj ?_ | ((first | refine zqh fun K J => ?_ | refine zqe (by decide +kernel) fun K J => ?_ | refine zqr fun K J => ?_ | refine zqt (c4) ?_); (simp (disch := omega) only [go_sem, Nat.reduceBEq, Nat.reduceEqDiff, ↓reduceIte, reduceCtorEq, Nat.reduceAdd, Nat.reduceMul, Nat.reduceLeDiff, q1, q5, q6, q7, qH1, z0a, z0e, List.map_cons, List.length_cons, zfp])) | ((first | refine zqd _ rfl (fun hc => ?_) (fun hc => ?_) | refine zqm _ rfl (fun hc => ?_) (fun hc => ?_)) <;> (((try simp only [z03] at hc); (try (exfalso; omega))))) | refine zqa ?_ | refine zqb ?_ | refine zqk ?_ | refine zqv ?_ | refine zqy ?_ | (refine J _ ?_; clear J K))
     ·have htf : ((z09 u).take (i + 1)).filter (atB s) = ((z09 u).take i).filter (atB s) ++ [(z09 u)[i]] := by
       rw [htk, List.filter_append, List.filter_cons, if_pos (by assumption)]; rfl
      (refine Exists.intro _ (And.intro ?_ ⟨i + 1, rfl, ?_⟩)); rotate_left; (simp (disch := omega) only [go_sem, Nat.reduceBEq, q1, q5, q6, q7, qH1, true_and, Int.natCast_add, Int.natCast_one, List.flatMap_append, List.flatMap_cons, List.flatMap_nil, List.append_nil, htf, List.length_append, List.length_cons, List.length_nil]); rotate_left
      ·omega
      ·omega
     ·have htf : ((z09 u).take (i + 1)).filter (atB s) = ((z09 u).take i).filter (atB s) := by
       rw [htk, List.filter_append, List.filter_cons, if_neg (by rw [‹atB s (z09 u)[i] = false›]; simp), List.filter_nil, List.append_nil]
      (refine Exists.intro _ (And.intro ?_ ⟨i + 1, rfl, ?_⟩)); rotate_left; (simp (disch := omega) only [go_sem, Nat.reduceBEq, q1, q5, q6, q7, qH1, true_and, Int.natCast_add, Int.natCast_one, htf]); rotate_left
      ·omega
      ·omega
    repeat' (first | refine zqj ?_ | ((refine z01 (N := 14) rfl fun K J => ?_); (simp (disch := omega) only [go_sem, Nat.reduceBEq, ↓reduceIte, q6, q7, z0e])) | ((refine zqd _ rfl (fun hc => ?_) (fun hc => ?_)) <;> (((try simp only [z03] at hc); (try (exfalso; omega))))) | refine zqc ?_ | refine zqv ?_ | refine zqz ?_ | refine zqp ?_ | (refine J _ ?_; clear J K))
    have hi2 : i = (z09 u).length := by omega
    subst hi2
    rw [List.take_length, <- hft] at q5 qH1
    (refine z1c (fun st => st.t 1 = z0a (s :: r) /\ st.t 5 = .osl 1 (z15 u s).length /\ st.H 1 = some (.row 27 (z15 u s).length ((z15 u s).flatMap z06)) /\ (2 <= st.nx)) ?_ ?_); rotate_left; (rintro st ⟨p1, p5, pH1, pp0⟩); rotate_left
    ·(simp (disch := omega) only [go_sem, Nat.reduceBEq, true_and, q1, q5, qH1])
     omega
    clear hft
    refine z5a fun K J => ?_
    (try (simp (disch := omega) only [go_sem])); repeat' skip
    refine J _ _ (za7 (P := Tryz.prog) (id := 1) (e := 27) (k := (z15 u s).length) (cs := (z15 u s).flatMap z06) (by (simp (disch := omega) only [go_sem, pH1])) (by decide +kernel) (z47 _)) ?_
    clear J K
    have v0 : z1k true 8 (z15 u s).length ((z15 u s).flatMap z06) = (z15 u s).map z17 := z3k _ _ rfl
    repeat' (refine zqa ?_)
    (refine z37 (fun U st => ∃ (k : _) (L : List T), U = r.length + 1 - k /\ st.t 1 = z0a (s :: r) /\ st.t 5 = .rsl false 8 (L.map z17) /\ st.t 8 = .int .i64 k /\ (1 <= k) /\ (k <= r.length + 1) /\ (L = (r.take (k - 1)).foldl z1u (z15 u s))) ?_ ?_); rotate_left; (rintro U st ⟨k, L, rfl, t1, t5, t8, tp0, tp1, tp2⟩); rotate_left
    ·(refine ⟨_, 1, z15 u s, rfl, ?_⟩); (simp (disch := omega) only [go_sem, Nat.reduceBEq, Nat.reduceLeDiff, p1, p5, true_and, Int.natCast_one, v0])
     exact ⟨rfl, rfl⟩
    have hLw : z91 L <= 1210000 := by rw [tp2]; exact z79 _ _ (z78 hc0)
    by_cases hk : k < r.length + 1
    ·obtain ⟨sk, hsk⟩ : ∃ sk, sk = (s :: r)[k]'hk := ⟨_, rfl⟩
     have hrk : (s :: r)[k]'hk = r[k - 1]'(by omega) := by rw [List.getElem_cons, dif_neg (by omega)]
     have hLn : (z1u L sk).length <= 1210000 := Nat.le_trans (z5t _) (Nat.le_trans (z92 _ _) hLw)
     have hLl : L.length <= 1210000 := Nat.le_trans (z5t _) hLw
     have hLm : ∀ x ∈ L, x ∈ z09 u := by rw [tp2]; exact z9j _ _ z93
     have hix : zku (.agg [.int .i64 s.kind, .str s.label] :: r.map z77) (k : Int) = some (.agg [.int .i64 sk.kind, .str sk.label]) := by
      unfold zku
      rw [if_pos ⟨by omega, by rw [List.length_cons, List.length_map]; omega⟩, Int.toNat_natCast]
      show ((s :: r).map z77)[k]? = some (z77 sk)
      rw [List.getElem?_map, List.getElem?_eq_getElem hk, hsk]; rfl
     repeat' (first | refine zqj ?_ | ((refine zqh fun K J => ?_); (simp (disch := omega) only [go_sem, Nat.reduceBEq, ↓reduceIte, reduceCtorEq, Nat.reduceMul, t1, t8, z0a, List.length_cons])) | ((refine zqd _ rfl (fun hc => ?_) (fun hc => ?_)) <;> (((try simp only [z03] at hc); (try (exfalso; omega))))) | refine zqa ?_ | refine zqb ?_ | (refine J _ ?_; clear J K))
     (refine z37 (fun U st => ∃ (i : _) (m : Nat), U = L.length - i /\ st.t 1 = z0a (s :: r) /\ st.t 5 = .rsl false 8 (L.map z17) /\ st.t 8 = .int .i64 k /\ st.t 9 = .osl m ((L.take i).flatMap (fun x => x.kids.filter (atB sk))).length /\ st.t 10 = .int .i64 i /\ st.H (m) = some (.row 27 ((L.take i).flatMap (fun x => x.kids.filter (atB sk))).length (((L.take i).flatMap (fun x => x.kids.filter (atB sk))).flatMap z06)) /\ (i <= L.length) /\ (m < st.nx)) ?_ ?_); rotate_left; (rintro U st ⟨i, m, rfl, v1, v5, v8, v9, v10, vHm, vp0, vp1⟩); rotate_left
     ·(refine ⟨_, 0, st.nx, rfl, ?_⟩); (simp (disch := omega) only [go_sem, Nat.reduceBEq, t1, t5, t8, true_and, Int.natCast_add, Int.natCast_one, Int.natCast_zero, List.flatMap_nil, z0a])
      omega
     by_cases hi : i < L.length
     ·have hkl : L[i].kids.length <= 1000000 := (z6a (z7d u hs _ (hLm _ (List.getElem_mem hi)))).1
      repeat' (first | refine zqj ?_ | ((refine zqh fun K J => ?_); (simp (disch := omega) only [go_sem, Nat.reduceBEq, ↓reduceIte, v5, v10])) | ((refine zqd _ rfl (fun hc => ?_) (fun hc => ?_)) <;> (((try simp only [z03] at hc); (try (exfalso; omega))))) | refine zqa ?_ | refine zqi ?_ | refine zqb ?_ | (refine J _ ?_; clear J K))
      (refine z37 (fun U st => ∃ (j : _), U = L[i].kids.length - j /\ st.t 1 = z0a (s :: r) /\ st.t 5 = .rsl false 8 (L.map z17) /\ st.t 8 = .int .i64 k /\ st.t 9 = .osl m ((L.take i).flatMap (fun x => x.kids.filter (atB sk)) ++ (L[i].kids.take j).filter (atB sk)).length /\ st.t 10 = .int .i64 i /\ st.t 11 = .int .i64 j /\ st.H (m) = some (.row 27 ((L.take i).flatMap (fun x => x.kids.filter (atB sk)) ++ (L[i].kids.take j).filter (atB sk)).length (((L.take i).flatMap (fun x => x.kids.filter (atB sk)) ++ (L[i].kids.take j).filter (atB sk)).flatMap z06)) /\ (j <= L[i].kids.length) /\ (m < st.nx)) ?_ ?_); rotate_left; (rintro U st ⟨j, rfl, w1, w5, w8, w9, w10, w11, wHm, wp0, wp1⟩); rotate_left
      ·(refine ⟨_, 0, rfl, ?_⟩); (simp (disch := omega) only [go_sem, Nat.reduceBEq, v1, v5, v8, v9, v10, vHm, true_and, Int.natCast_zero, List.append_nil, z0a, List.take_zero, List.filter_nil])
       omega
      have hpt := zb8 (s := sk) hi j
      rw [List.length_append] at hpt
      by_cases hj : j < L[i].kids.length
      ·have c5 := zr9 L[i].kids[j] sk
       have htk := List.take_succ_eq_append_getElem hj
       have hkk : k < (s :: r).length := hk
       repeat' (first | refine zqj ?_ | ((first | refine zqh fun K J => ?_ | refine zqe (by decide +kernel) fun K J => ?_ | refine zqr fun K J => ?_ | refine zqt (c5) ?_); (simp (disch := omega) only [go_sem, Nat.reduceBEq, Nat.reduceEqDiff, ↓reduceIte, reduceCtorEq, Nat.reduceAdd, Nat.reduceMul, Nat.reduceLeDiff, w1, w5, w8, w9, w10, w11, wHm, z0a, z0e, hix])) | ((first | refine zqd _ rfl (fun hc => ?_) (fun hc => ?_) | refine zqm _ rfl (fun hc => ?_) (fun hc => ?_)) <;> (((try simp only [z03] at hc); (try (exfalso; omega))))) | refine zqa ?_ | refine zqb ?_ | refine zqk ?_ | refine zqv ?_ | refine zqy ?_ | (refine J _ ?_; clear J K))
       ·have htf : (L[i].kids.take (j + 1)).filter (atB sk) = (L[i].kids.take j).filter (atB sk) ++ [L[i].kids[j]] := by
         rw [htk, List.filter_append, List.filter_cons, if_pos (by assumption)]; rfl
        (refine Exists.intro _ (And.intro ?_ ⟨j + 1, rfl, ?_⟩)); rotate_left; (simp (disch := omega) only [go_sem, Nat.reduceBEq, w1, w5, w8, w9, w10, w11, wHm, true_and, Int.natCast_add, Int.natCast_one, List.flatMap_append, List.flatMap_cons, List.flatMap_nil, List.append_nil, htf, List.length_append, List.length_cons, List.length_nil, Nat.add_assoc, List.append_assoc]); rotate_left
        ·omega
        ·omega
       ·have htf : (L[i].kids.take (j + 1)).filter (atB sk) = (L[i].kids.take j).filter (atB sk) := by
         rw [htk, List.filter_append, List.filter_cons, if_neg (by rw [‹atB sk L[i].kids[j] = false›]; simp), List.filter_nil, List.append_nil]
        (refine Exists.intro _ (And.intro ?_ ⟨j + 1, rfl, ?_⟩)); rotate_left; (simp (disch := omega) only [go_sem, Nat.reduceBEq, w1, w5, w8, w9, w10, w11, wHm, true_and, Int.natCast_add, Int.natCast_one, List.flatMap_append, htf]); rotate_left
        ·omega
        ·omega
      ·repeat' (first | refine zqj ?_ | ((first | refine zqh fun K J => ?_ | refine zqr fun K J => ?_); (simp (disch := omega) only [go_sem, Nat.reduceBEq, ↓reduceIte, reduceCtorEq, Nat.reduceAdd, w5, w10, w11, z0e])) | ((refine zqd _ rfl (fun hc => ?_) (fun hc => ?_)) <;> (((try simp only [z03] at hc); (try (exfalso; omega))))) | refine zqc ?_ | refine zqv ?_ | refine zqy ?_ | refine zqz ?_ | refine zqp ?_ | (refine J _ ?_; clear J K))
       have hj2 : L[i].kids.take j = L[i].kids := List.take_of_length_le (by omega)
       have htk : (L.take (i + 1)).flatMap (fun x => x.kids.filter (atB sk)) = (L.take i).flatMap (fun x => x.kids.filter (atB sk)) ++ L[i].kids.filter (atB sk) := by
        rw [List.take_succ_eq_append_getElem hi, List.flatMap_append, List.flatMap_cons, List.flatMap_nil, List.append_nil]
       rw [hj2, <- htk] at w9 wHm
       (refine Exists.intro _ (And.intro ?_ ⟨i + 1, m, rfl, ?_⟩)); rotate_left; (simp (disch := omega) only [go_sem, Nat.reduceBEq, w1, w5, w8, w9, w10, wHm, true_and, Int.natCast_add, Int.natCast_one]); rotate_left
       ·omega
       ·omega
     ·skip
      repeat' (first | refine zqj ?_ | ((refine z01 (N := 26) rfl fun K J => ?_); (simp (disch := omega) only [go_sem, Nat.reduceBEq, ↓reduceIte, v5, v10])) | ((refine zqd _ rfl (fun hc => ?_) (fun hc => ?_)) <;> (((try simp only [z03] at hc); (try (exfalso; omega))))) | refine zqc ?_ | refine zqv ?_ | refine zqz ?_ | refine zqp ?_ | (refine J _ ?_; clear J K))
      have hi2 : L.take i = L := List.take_of_length_le (by omega)
      have hnx : (r.take (k + 1 - 1)).foldl z1u (z15 u s) = z1u L sk := by
       rw [tp2, show k + 1 - 1 = k - 1 + 1 from by omega, List.take_succ_eq_append_getElem (by omega), List.foldl_append, hsk, hrk]; rfl
      rw [hi2] at v9 vHm
      have hnt : L.flatMap (fun x => x.kids.filter (atB sk)) = z1u L sk := rfl
      rw [hnt] at v9 vHm
      have g1 : z1k true 8 (z1u L sk).length ((z1u L sk).flatMap z06) = (z1u L sk).map z17 := z3k _ _ rfl
      refine zqr fun K J => ?_
      (simp (disch := omega) only [go_sem, Nat.reduceBEq, v9])
      refine J _ ?_
      clear J K
      refine zqy (zaw _ (za7 (P := Tryz.prog) (id := m) (e := 27) (k := (z1u L sk).length) (cs := (z1u L sk).flatMap z06) (by (simp (disch := omega) only [go_sem, vHm])) (by decide +kernel) (z47 _)) ?_)
      repeat' (first | ((refine zqr fun K J => ?_); (simp (disch := omega) only [go_sem, Nat.reduceBEq, ↓reduceIte, v8, g1])) | (refine J _ ?_; clear J K))
      (refine Exists.intro _ (And.intro ?_ ⟨k + 1, z1u L sk, rfl, ?_⟩)); rotate_left; (simp (disch := omega) only [go_sem, Nat.reduceBEq, Nat.reduceLeDiff, v1, v5, v8, true_and, Int.natCast_add, Int.natCast_one, g1]); rotate_left
      ·omega
      ·exact ⟨rfl, by omega, hnx.symm⟩
    ·skip
     repeat' (first | refine zqj ?_ | ((refine zqh fun K J => ?_); (simp (disch := omega) only [go_sem, Nat.reduceBEq, ↓reduceIte, t1, t5, t8, z0a, List.length_cons])) | ((refine zqd _ rfl (fun hc => ?_) (fun hc => ?_)) <;> (((try simp only [z03] at hc); (try (exfalso; omega))))) | refine zqc ?_ | refine zqn ?_ | refine zqv ?_ | refine zqz ?_ | refine zqp ?_ | refine zqu (by (simp (disch := omega) only [go_sem]); rfl) rfl ?_ | (refine J _ ?_; clear J K))
     have hk2 : k = r.length + 1 := by omega
     subst hk2
     rw [Nat.add_sub_cancel, List.take_length] at tp2
     rw [goT, <- tp2]
     exact z02 (z1e L) (Le.refl _)
 ·rw [Bool.not_eq_true] at hv
  rw [hv] at c1
  unfold z2j
  rw [if_neg (by rw [hv]; simp)]
  repeat' (first | refine zqj ?_ | ((first | refine zqh fun K J => ?_ | refine zqs (c1) ?_); (simp (disch := omega) only [go_sem, Nat.reduceBEq, ↓reduceIte])) | ((refine zqd _ rfl (fun hc => ?_) (fun hc => ?_)) <;> (first | (cases hc; done) | ((try simp only [] at hc); (try (exfalso; omega))))) | refine zqg ?_ | refine zqu (by (simp (disch := omega) only [go_sem]); rfl) rfl ?_ | (refine J _ ?_; clear J K))
  exact z02 rfl (Le.nil 8)
theorem zv0 (u : T) (hs : szB u = true) (hc : cntT u <= 1100) (p : List Stp) (hl : p.length <= maxLen) (hps : ∀ s ∈ p, s.label.size <= maxLen) : PC Tryz.prog 42 [z17 u, z0a p] (z2i (z40 u p)) := by
 have c1 := ztl u hs hc p hl hps
 have hn := zkf (u := u) (p := p) hc
 refine z1y 2 (by simp only [pureD.pureL, z05, z0r, Bool.and_self]) (z4q _) (z1w [8] Tryz.func42 rfl (by decide +kernel) z0j (by decide +kernel) (by simp [Tryz.ntmps42]) ?_)
 show awp _ _ (Code.seq _ _) _ _
 repeat' (first | refine zqj ?_ | ((first | refine zqh fun K J => ?_ | refine zqs (c1) ?_); (simp (disch := omega) only [go_sem, Nat.reduceBEq, ↓reduceIte, reduceCtorEq, Nat.reduceAdd, Nat.reduceMul, Nat.reduceLeDiff])) | refine zqa ?_ | (refine J _ ?_; clear J K))
 (refine z37 (fun U st => ∃ (k : _), U = (z2j u p).length - k /\ st.t 5 = .osl 1 k /\ st.t 6 = z0e (z2j u p) /\ st.t 7 = .int .i64 k /\ st.H 1 = some (.row 23 k ((((z2j u p).take k).map T.id).flatMap z04)) /\ (k <= (z2j u p).length) /\ (2 <= st.nx)) ?_ ?_); rotate_left; (rintro U st ⟨k, rfl, q5, q6, q7, qH1, qp0, qp1⟩); rotate_left
 ·(refine ⟨_, 0, rfl, ?_⟩); (simp (disch := omega) only [go_sem, Nat.reduceBEq, Nat.reduceLeDiff, and_self, Int.natCast_zero, List.flatMap_nil, List.map_nil])
  try simp
 by_cases hk : k < (z2j u p).length
 ·have htk := List.take_succ_eq_append_getElem hk
  repeat' (first | refine zqj ?_ | ((first | refine zqh fun K J => ?_ | refine zqr fun K J => ?_); (simp (disch := omega) only [go_sem, Nat.reduceBEq, ↓reduceIte, reduceCtorEq, Nat.reduceAdd, Nat.reduceMul, Nat.reduceLeDiff, q5, q6, q7, qH1, z0e])) | ((refine zqd _ rfl (fun hc => ?_) (fun hc => ?_)) <;> (((try simp only [z03] at hc); (try (exfalso; omega))))) | refine zqa ?_ | refine zqb ?_ | refine zqv ?_ | refine zqy ?_ | (refine J _ ?_; clear J K))
  (refine Exists.intro _ (And.intro ?_ ⟨k + 1, rfl, ?_⟩)); rotate_left; (simp (disch := omega) only [go_sem, Nat.reduceBEq, q5, q6, q7, qH1, true_and, Int.natCast_add, Int.natCast_one, List.flatMap_append, List.flatMap_cons, List.flatMap_nil, List.map_append, List.map_cons, List.map_nil, List.append_nil, htk, z04]); rotate_left
  ·omega
  ·omega
 ·repeat' (first | refine zqj ?_ | ((refine zqh fun K J => ?_); (simp (disch := omega) only [go_sem, Nat.reduceBEq, ↓reduceIte, q5, q6, q7, z0e])) | ((refine zqd _ rfl (fun hc => ?_) (fun hc => ?_)) <;> (((try simp only [z03] at hc); (try (exfalso; omega))))) | refine zqc ?_ | refine zqn ?_ | refine zqv ?_ | refine zqz ?_ | refine zqp ?_ | refine zqu (by (simp (disch := omega) only [go_sem]); rfl) rfl ?_ | (refine J _ ?_; clear J K))
  have hk2 : k = (z2j u p).length := by omega
  subst hk2
  rw [List.take_length] at qH1
  have hl2 : (z2j u p).length = ((z2j u p).map T.id).length := by simp
  rw [hl2] at qH1 ⊢
  exact z4h (z22 (l := (z2j u p).map T.id) 0 qH1 z6e z9z (fun _ => rfl) (fun _ => rfl))
theorem zqw (u : T) (hs : szB u = true) (hc : cntT u <= 1100) (p : List Stp) (hl : p.length <= maxLen) (hps : ∀ s ∈ p, s.label.size <= maxLen) : PC Tryz.prog 10 [z17 u, z0a p] (.tup [z3h (z24 u p).1, .int .i64 (z24 u p).2]) := by
 have c1 := zv0 u hs hc p hl hps
 refine z1y 3 (by simp only [pureD.pureL, z05, z0r, Bool.and_self]) rfl (z1w [] Tryz.func10 rfl (by decide +kernel) z0j (by decide +kernel) (by simp [Tryz.ntmps10]) ?_)
 show awp _ _ (Code.seq _ _) _ _
 rw [show Tryz.f10.results.toList = [.cell 4 23, .tmp 5] from rfl]
 have hz : Int.toNat 0 = 0 := rfl
 rcases Nat.lt_trichotomy (z40 u p).length 1 with h | h | h
 ·have h0 : z40 u p = [] := List.eq_nil_of_length_eq_zero (by omega)
  rw [zu4 h0]
  rw [h0] at c1
  repeat' (first | refine zqj ?_ | ((first | refine zqh fun K J => ?_ | refine zqs (c1) ?_); (simp (disch := omega) only [go_sem, Nat.reduceBEq, ↓reduceIte, Nat.reduceAdd, Nat.reduceLeDiff, z2i])) | ((refine zqd _ rfl (fun hc => ?_) (fun hc => ?_)) <;> (first | (cases hc; done) | ((try simp only [decide_eq_true_eq] at hc); (try (exfalso; omega))))) | refine zqg ?_ | refine zqu (by (simp (disch := omega) only [go_sem, Nat.reduceBEq, ↓reduceIte, Nat.reduceAdd, Nat.reduceLeDiff]); rfl) rfl ?_ | (refine J _ ?_; clear J K))
  exact z02 rfl (Le.refl _)
 ·rw [zu5 h]
  obtain ⟨i, hi⟩ : ∃ i, z40 u p = [i] := List.length_eq_one_iff.1 h
  have hg : (z40 u p)[0]'(by omega) = i := by simp only [hi, List.getElem_cons_zero]
  rw [hg]
  rw [hi] at c1
  repeat' (first | refine zqj ?_ | ((first | refine zqh fun K J => ?_ | refine zqs (c1) ?_); (simp (disch := omega) only [go_sem, Nat.reduceBEq, ↓reduceIte, reduceCtorEq, Nat.reduceAdd, Nat.reduceLeDiff, z2i, zfp, List.map_cons, List.map_nil])) | ((refine zqd _ rfl (fun hc => ?_) (fun hc => ?_)) <;> (first | (cases hc; done) | ((try simp only [decide_eq_false_iff_not] at hc); (try (exfalso; omega))))) | refine zqb ?_ | refine zqn ?_ | refine zqu (by (simp (disch := omega) only [go_sem, Nat.reduceBEq, ↓reduceIte, Nat.reduceAdd, Nat.reduceLeDiff]); rfl) rfl ?_ | (refine J _ ?_; clear J K))
  exact z02 rfl (Le.refl _)
 ·rw [zu6 h]
  repeat' (first | refine zqj ?_ | ((first | refine zqh fun K J => ?_ | refine zqs (c1) ?_); (simp (disch := omega) only [go_sem, Nat.reduceBEq, ↓reduceIte, Nat.reduceAdd, Nat.reduceLeDiff, z2i])) | ((refine zqd _ rfl (fun hc => ?_) (fun hc => ?_)) <;> (((try simp only [z03] at hc); (try (exfalso; omega))))) | refine zqb ?_ | refine zqg ?_ | refine zqu (by (simp (disch := omega) only [go_sem, Nat.reduceBEq, ↓reduceIte, Nat.reduceAdd, Nat.reduceLeDiff]); rfl) rfl ?_ | (refine J _ ?_; clear J K))
  exact z02 rfl (Le.refl _)
namespace Tr
theorem znr {id : Idv} {t : T} (h : t.id = id) : z3v id t = [] := by unfold z3v; rw [z2w h]; rfl
theorem zns {id : Idv} {t : T} (h : z1d id t = []) : z3v id t = [] := by unfold z3v; rw [h]; rfl
theorem zr0 {id : Idv} {t k : T} (h : z1d id t = t :: z1d id k) (h2 : z1d id k ≠ []) : z3v id t = zfu k :: z3v id k := by
 have := zud (z3g.1 h2)
 unfold z3v
 rw [h, List.drop_succ_cons, List.drop_zero]
 conv => lhs; rw [this]
 rfl
theorem zie (id : Idv) (t : T) : (z3v id t).length <= depT t := by
 have := z50 id t
 unfold z3v
 rw [List.length_map, List.length_drop]; omega
end Tr
theorem z6u : ∀ w : List Stp, z1i 2 (w.map z77) = some (w.flatMap z3x)
 | [] => rfl
 | t :: w => by
  rw [List.map_cons, List.flatMap_cons]
  unfold z1i
  rw [z6u w]
  rfl
def zxa (id : Idv) (t : T) : D := .tup [z0a (z3v id t), .bool (z07 id t).2]
theorem zr1 (id : Idv) (t : T) : pureD (zxa id t) = true := by simp only [zxa, pureD, pureD.pureL, z0r, Bool.and_self]
theorem zr2 (id : Idv) : ∀ t : T, szB t = true -> depT t <= 1000000 -> PC Tryz.prog 43 [z17 t, z3h id] (zxa id t) := by
 refine z3u fun t ih hs hd => ?_
 obtain ⟨h0, h1, g1, h2, g2, h3, h4⟩ := (z1l t).1 hs
 refine z1y 3 (by simp only [pureD.pureL, z05]; rfl) (zr1 _ _) (z1w [8000000, 45, 3000023, 3000025, 3000026, 3000027, 5000028, 3000033, 3000035, 3000037, 3000039, 3000041, 3000043] Tryz.func43 rfl (by decide +kernel) z0j (by decide +kernel) (by simp [Tryz.ntmps43]) ?_)
 show awp _ _ (Code.seq _ _) _ _
 rw [show Tryz.f43.results.toList = [.tmp 4, .tmp 5] from rfl]
 repeat' (first | refine zqj ?_ | ((refine zqh fun K J => ?_); (simp (disch := omega) only [go_sem, Nat.reduceBEq, ↓reduceIte, reduceCtorEq, Nat.reduceAdd, Nat.reduceMul, Nat.reduceLeDiff])) | ((refine zqd _ rfl (fun hc => ?_) (fun hc => ?_)) <;> (((try simp only [z03] at hc); (try (exfalso; omega))))) | refine zqa ?_ | refine zqb ?_ | refine zqg ?_ | refine zqu (by (simp (disch := omega) only [go_sem, Nat.reduceBEq]); rfl) rfl ?_ | (refine J _ ?_; clear J K))
 ·have hf := z1o ‹t.id = id›
  unfold zxa
  rw [hf, znr (by assumption)]
  exact z02 rfl (Le.tup ⟨Le.rsl, Le.refl _, trivial⟩)
 ·have hne : ¬ t.id = id := by assumption
  (refine z37 (fun U st => ∃ (i : _), U = t.kids.length - i /\ st.t 2 = .ptr 0 0 /\ st.t 3 = .ptr 1 0 /\ st.t 6 = .int .i64 i /\ st.H 0 = some (.box 27 (z06 t)) /\ st.H 1 = some (.box 23 (z04 id)) /\ (i <= t.kids.length) /\ (2 <= st.nx) /\ (∀ j, (hj : j < i) -> (h : j < t.kids.length) -> z1d id t.kids[j] = [])) ?_ ?_); rotate_left; (rintro U st ⟨i, rfl, q2, q3, q6, qH0, qH1, qp0, qp1, qp2⟩); rotate_left
  ·(refine ⟨_, 0, rfl, ?_⟩); (simp (disch := omega) only [go_sem, Nat.reduceBEq, Nat.reduceLeDiff, true_and, Int.natCast_zero, z04])
   (repeat' (omega))
   all_goals first | omega | (intro j hj; omega)
  by_cases hi : i < t.kids.length
  ·have hdk := z3s (List.getElem_mem hi)
   have hin := ih t.kids[i] (List.getElem_mem hi) (h4 _ (List.getElem_mem hi)) (by omega)
   unfold zxa at hin
   have hbl := zie id t.kids[i]
   repeat' (first | refine zqj ?_ | ((first | refine zqh fun K J => ?_ | refine zqe (by decide +kernel) fun K J => ?_ | refine zqr fun K J => ?_ | refine zqt (hin) ?_); (simp (disch := omega) only [go_sem, Nat.reduceBEq, Nat.reduceEqDiff, ↓reduceIte, reduceCtorEq, Nat.reduceAdd, Nat.reduceMul, Nat.reduceLeDiff, q2, q3, q6, qH0, qH1, z0e, z04, z0a, z6u])) | ((first | refine zqd _ rfl (fun hc => ?_) (fun hc => ?_) | refine zqm _ rfl (fun hc => ?_) (fun hc => ?_)) <;> (((try simp only [z03] at hc); (try (exfalso; omega))))) | refine zqa ?_ | refine zqb ?_ | refine zqk ?_ | refine zqn ?_ | refine zqv ?_ | refine zqx ?_ | refine zqy ?_ | refine z4a ?_ | refine zqo ?_ | refine zqu (by (simp (disch := omega) only [go_sem, Nat.reduceBEq]); rfl) rfl ?_ | (refine J _ ?_; clear J K))
   ·have hf := z5x.1 ‹(z07 id t.kids[i]).2 = true›
    have hw := z3f hne hi qp2 hf
    have hbk := zr0 hw hf
    have hfk : (z07 id t).2 = true := by rw [z2n hw hf]; assumption
    unfold zxa
    rw [hfk, hbk]
    have hlen : 1 + (z3v id t.kids[i]).length = (zfu t.kids[i] :: z3v id t.kids[i]).length := by rw [List.length_cons]; omega
    refine z4h (zef 2 (by simp only [pureD.pureL, pureD, Bool.false_and]) (z0o (z35 (f := z3x) (l := zfu t.kids[i] :: z3v id t.kids[i]) 0 hlen.symm ?_ zh1 zkk (fun _ => rfl) (fun _ => rfl)) (z0o (z0p _ rfl) z6j)))
    (simp (disch := omega) only [go_sem, zfu, z3x, List.flatMap_cons, List.cons_append, List.nil_append])
   ·have hf := zbb.1 ‹(z07 id t.kids[i]).2 = false›
    (refine Exists.intro _ (And.intro ?_ ⟨i + 1, rfl, ?_⟩)); rotate_left; (simp (disch := omega) only [go_sem, Nat.reduceBEq, q2, q3, q6, qH0, qH1, true_and, Int.natCast_add, Int.natCast_one, z04]); rotate_left
    ·omega
    ·refine ⟨by omega, by omega, fun j hj h => ?_⟩
     by_cases e : j = i
     ·subst e; exact hf
     ·exact qp2 j (by omega) h
  ·repeat' (first | refine zqj ?_ | ((refine zqh fun K J => ?_); (simp (disch := omega) only [go_sem, Nat.reduceBEq, ↓reduceIte, reduceCtorEq, Nat.reduceAdd, q2, q6, qH0, z0e])) | ((refine zqd _ rfl (fun hc => ?_) (fun hc => ?_)) <;> (((try simp only [z03] at hc); (try (exfalso; omega))))) | refine zqc ?_ | refine zqn ?_ | refine zqv ?_ | refine zqz ?_ | refine zqp ?_ | refine zqu (by (simp (disch := omega) only [go_sem, Nat.reduceBEq]); rfl) rfl ?_ | (refine J _ ?_; clear J K))
   unfold zxa
   rw [z9h (z6c hne (by omega) qp2), zns (z6c hne (by omega) qp2)]
   exact z02 rfl (Le.tup ⟨Le.nil 2, Le.refl _, trivial⟩)
theorem zdk (id : Idv) (u : T) (hs : szB u = true) (hd : depT u <= 1000000) (hm : id ∈ z0c u) : PC Tryz.prog 15 [z17 u, z3h id] (.tup [z0a (z49 id u), .bool true]) := by
 have c1 := zr2 id u hs hd
 unfold zxa at c1
 have hf : (z07 id u).2 = true := by rw [z36, decide_eq_true hm]
 rw [hf] at c1
 have hbl := zie id u
 refine z1y 3 (by simp only [pureD.pureL, z05]; rfl) (by simp only [pureD, pureD.pureL, z0r, Bool.and_self]) (z1w [17] Tryz.func15 rfl (by decide +kernel) z0j (by decide +kernel) (by simp [Tryz.ntmps15]) ?_)
 show awp _ _ (Code.seq _ _) _ _
 rw [show Tryz.f15.results.toList = [.tmp 4, .tmp 5] from rfl]
 repeat' (first | refine zqj ?_ | ((first | refine zqh fun K J => ?_ | refine zqs (c1) ?_); (simp (disch := omega) only [go_sem, Nat.reduceBEq, ↓reduceIte, reduceCtorEq, Nat.reduceAdd, Nat.reduceMul, Nat.reduceLeDiff, z0a, z6u])) | ((refine zqd _ rfl (fun hc => ?_) (fun hc => ?_)) <;> (first | (cases hc; done) | ((try simp only [] at hc); (try (exfalso; omega))))) | refine zqb ?_ | refine zqn ?_ | refine zqu (by (simp (disch := omega) only [go_sem, Nat.reduceBEq]); rfl) rfl ?_ | (refine J _ ?_; clear J K))
 have hlen : 1 + (z3v id u).length = (z49 id u).length := by unfold z49; rw [List.length_cons]; omega
 refine z4h (zef 2 (by simp only [pureD.pureL, pureD, Bool.false_and]) (z0o (z35 (f := z3x) (l := z49 id u) 0 hlen.symm ?_ zh1 zkk (fun _ => rfl) (fun _ => rfl)) (z0o (z0p _ rfl) z6j)))
 (simp (disch := omega) only [go_sem, Nat.reduceBEq, z49, z3x, List.flatMap_cons, List.cons_append, List.nil_append])
 rfl
namespace Tr
theorem zq3 {id : Idv} {u : T} (hn : (z0c u).Nodup) (h0 : ¬ u.id = id) (hm : id ∈ z0c u) {under : Idv} {m : Nat} {b : Bool} (hp : z2u id u = (under, (m : Int), b)) : under ∈ z0c u /\ z2k under (fun _ => ztj m (z07 under u).1) u = z0h id u := by
 obtain ⟨i, e1, e2, e3, q, e4, _, _⟩ := zzu hn h0 hm
 rw [hp] at e1 e3 e4
 simp only at e1 e3 e4
 have e1 : m = i := by omega
 subst e1
 have hin : under ∈ z0c u := by have := congrArg Prod.snd e4; rw [z36, decide_eq_true_eq] at this; exact this
 have h2 := ztk (ztj m) hn hin
 rw [h2] at e3
 have e3 := (Prod.mk.inj e3).1
 refine ⟨hin, ?_⟩
 rw [z9k (f := ztj m) hn (Prod.ext rfl (za1 hin)), e3]
theorem zuv {id : Idv} {t : T} (hm : id ∈ z0c t) (h0 : ¬ t.id = id) : 1 <= z5n id t := by
 obtain ⟨i, hi, _, h2, h3⟩ := z5d h0 (z3g.2 hm)
 rw [zmf h3]
 have := zh8.2 h2
 omega
end Tr
set_option maxHeartbeats 32000000 in
theorem zq4 (u : T) (hst : z0z u = true) (hz : szB u = true) (hc : cntT u <= 1100) (id : Idv) (hm : id ∈ z0c u) (d : EIt) (hw : 0 <= d.it.wh /\ d.it.wh <= 3) (t1 : d.it.to.length <= maxLen) (t2 : ∀ s ∈ d.it.to, s.label.size <= maxLen) :
  PC Tryz.prog 35 [z17 u, z3h id, zm1 d] (.tup [z17 (if (z24 u d.it.to).2 = 0 then z2d u id (z24 u d.it.to).1 d.it.wh else u), .int .i64 (if (z24 u d.it.to).2 = 0 then z2c u id (z24 u d.it.to).1 d.it.wh else (z24 u d.it.to).2)]) := by
 obtain ⟨s1, s2, s3, s4, s5, s6⟩ := (z1f u).1 hst
 have c0 := zqw u hz hc d.it.to t1 t2
 have c1 := fun k => zae k u hz (by omega)
 have c2 := fun k => zdn k u hz (by omega)
 have hfz : ∀ k, szB (z07 k u).1 = true := fun k => zbk k u hz
 have hal : ∀ k, ((z5f k u).length : Int) <= 8 := fun k => by
  unfold z5f
  have := z50 k u
  rw [List.length_reverse, List.length_map, List.length_dropLast]; omega
 refine z1y 3 (by simp only [pureD.pureL, z05, zbd, Bool.and_self]; rfl) (by simp only [pureD, pureD.pureL, z05, Bool.and_self]) (z1w [] Tryz.func35 rfl (by decide +kernel) z0j (by decide +kernel) (by simp [Tryz.ntmps35]) ?_)
 show awp _ _ (Code.seq _ _) _ _
 rw [show Tryz.f35.results.toList = [.cell 6 27, .tmp 7] from rfl]
 by_cases ho : (z24 u d.it.to).2 = 0
 case neg =>
  rw [if_neg ho, if_neg ho]
  have hod : decide ((z24 u d.it.to).2 = 0) = false := decide_eq_false ho
  repeat' (first | refine zqj ?_ | ((first | refine zqh fun K J => ?_ | refine zqs (c0) ?_); (simp (disch := omega) only [go_sem, Nat.reduceBEq, ↓reduceIte, reduceCtorEq, Nat.reduceAdd, Nat.reduceLeDiff, z0a])) | ((refine zqd _ rfl (fun hc => ?_) (fun hc => ?_)) <;> (((try simp only [z03] at hc); (try (exfalso; omega))))) | refine zqg ?_ | refine zqu (by (simp (disch := omega) only [go_sem, Nat.reduceBEq, ↓reduceIte, Nat.reduceLeDiff]); rfl) rfl ?_ | (refine J _ ?_; clear J K))
  exact z02 (by simp only [pureD, pureD.pureL, z0d, Bool.and_self]) (Le.refl _)
 have hto : (z24 u d.it.to).1 ∈ z0c u := zgz (e := (z24 u d.it.to).2) rfl ho
 rw [if_pos ho, if_pos ho]
 rw [ho] at c0
 generalize (z24 u d.it.to).1 = to at c0 hto ⊢
 obtain ⟨X, hX⟩ : ∃ X, X = (z07 id u).1 := ⟨_, rfl⟩
 have hXz : szB X = true := by rw [hX]; exact hfz id
 have hXi : X.id = id := by
  obtain ⟨_, _, h2, _⟩ := focus id u hm
  rw [hX]; exact h2
 have hXd : depT X <= 8 := by
  rw [hX]
  have := zi3 u _ (z51 (za1 hm))
  omega
 have c3 := zae to X hXz (by omega)
 have c4 := c1 id
 rw [<- hX] at c4
 obtain ⟨R, hR⟩ : ∃ R : T × Int, R = (z2d u id to d.it.wh, z2c u id to d.it.wh) := ⟨_, rfl⟩
 rw [show z2d u id to d.it.wh = R.1 from by rw [hR], show z2c u id to d.it.wh = R.2 from by rw [hR]]
 have hRe : ∀ e, z2c u id to d.it.wh = e -> ¬ e = 0 -> R = (u, e) := fun e h1 h2 => by rw [hR, z2d, h1, if_neg fun g => h2 g.1]
 have hR0 : z2c u id to d.it.wh = 0 -> R = (if to = id then u else z2k (z3c u to d.it.wh) (z5l (zi1 u id to d.it.wh) X) (z0h id u), 0) := fun h => by
  rw [hR, z2d, h, <- hX]
  by_cases g : to = id
  ·rw [if_pos g, if_neg fun q => q.2 g]
  ·rw [if_neg g, if_pos ⟨rfl, g⟩]
 have hI : z2c u id to d.it.wh = if u.id = id \/ (zaa d.it.wh = true /\ u.id = to) \/ (to ∈ z0c X /\ (¬ to = id \/ zaa d.it.wh = false)) then 9 else
   if z20 (z07 (z3c u to d.it.wh) u).1.kind X.kind = false then 9 else if z45 (zd0 u id (z3c u to d.it.wh)) X.kind X.label = true then 10 else
   if 64 <= (zd0 u id (z3c u to d.it.wh)).length \/ 8 < (z5f (z3c u to d.it.wh) u).length + 1 + depT X then 6 else 0 := by
  unfold z2c
  rw [<- hX]
 clear hR
 repeat' (first | refine zqj ?_ | ((first | refine z01 (N := 4) rfl fun K J => ?_ | refine zqs (c0) ?_); (simp (disch := omega) only [go_sem, Nat.reduceBEq, ↓reduceIte, reduceCtorEq, Nat.reduceAdd, Nat.reduceLeDiff, z0a])) | ((refine zqd _ rfl (fun hc => ?_) (fun hc => ?_)) <;> (first | (cases hc; done) | ((try simp only [] at hc); (try (exfalso; omega))))) | refine zqb ?_ | (refine J _ ?_; clear J K))
 (refine z54 (fun st => st.t 3 = .ptr 0 0 /\ st.t 4 = .ptr 1 0 /\ st.t 5 = .ptr 2 0 /\ st.t 6 = .ptr 3 0 /\ st.t 8 = .ptr 4 0 /\ st.t 10 = .bool (zaa d.it.wh) /\ st.H 0 = some (.box 27 (z06 u)) /\ st.H 1 = some (.box 23 (z04 id)) /\ st.H 2 = some (.box 36 (z0k d)) /\ st.H 3 = some (.box 27 [.int .i64 0, .int .i64 0, .int .i64 0, .int .i64 0, .str ByteArray.empty, .nil, .nil, .nil]) /\ st.H 4 = some (.box 23 (z04 to)) /\ st.nx = 5) ?_ ?_); rotate_left; (rintro st ⟨j3, j4, j5, j6, j8, j10, jH0, jH1, jH2, jH3, jH4, jnx⟩); rotate_left
 ·repeat' (first | ((refine zqr fun K J => ?_); (simp (disch := omega) only [go_sem, Nat.reduceBEq, ↓reduceIte, reduceCtorEq, Nat.reduceAdd])) | (refine J _ ?_; clear J K) | (refine zqf (fun hb => ?_) (fun hb => ?_) <;> (have hb2 := hb; try simp only [z03] at hb2) <;> ((first | have F := eq_false hb2 | have F := eq_true hb2); (simp (disch := omega) only [go_sem, Nat.reduceBEq, ↓reduceIte, reduceCtorEq, Nat.reduceAdd, F]); clear hb F; (try (exfalso; omega)))))
  all_goals ((refine z46 ?_); (simp (disch := omega) only [go_sem, Nat.reduceBEq, true_and, and_true, and_self, z04]))
  all_goals (unfold zaa; simp [*])
 generalize hbe : zaa d.it.wh = be at *
 repeat' (first | refine zqj ?_ | ((first | refine z01 (N := 7) rfl fun K J => ?_ | refine zqs (c4) ?_ | refine zqs (c3) ?_); (simp (disch := omega) only [go_sem, Nat.reduceBEq, ↓reduceIte, Nat.reduceAdd, Nat.reduceLeDiff, j3, j4, j8, jH0, jH1, jH4, jnx, z04])) | (refine J _ ?_; clear J K))
 by_cases e1 : u.id = id \/ (be = true /\ u.id = to) \/ (to ∈ z0c X /\ (¬ to = id \/ be = false))
 ·rw [if_pos e1] at hI
  rw [hRe 9 hI (by decide)]
  rcases e1 with e1 | ⟨e1, e2⟩ | ⟨e1, e2⟩
  ·have g1 : decide (id = u.id) = true := decide_eq_true e1.symm
   repeat' (first | refine zqj ?_ | ((refine z01 (N := 9) rfl fun K J => ?_); (simp (disch := omega) only [go_sem, Nat.reduceBEq, ↓reduceIte, reduceCtorEq, Nat.reduceAdd, Nat.reduceLeDiff, j3, j4, j6, jH0, jH1, jH3, z04, g1])) | ((refine zqd _ rfl (fun hc => ?_) (fun hc => ?_)) <;> (first | (cases hc; done) | ((try simp only [] at hc); (try (exfalso; omega))))) | refine zqg ?_ | refine zqu (by (simp (disch := omega) only [go_sem, Nat.reduceBEq, ↓reduceIte, Nat.reduceLeDiff, j6, jH3]); rfl) rfl ?_ | (refine J _ ?_; clear J K))
   all_goals exact z02 (by simp only [pureD, pureD.pureL, z0d, Bool.and_self]) (Le.refl _)
  ·have g1 : decide (to = u.id) = true := decide_eq_true e2.symm
   repeat' (first | refine zqj ?_ | ((refine z01 (N := 9) rfl fun K J => ?_); (simp (disch := omega) only [go_sem, Nat.reduceBEq, ↓reduceIte, reduceCtorEq, Nat.reduceAdd, Nat.reduceLeDiff, j3, j4, j6, jH0, jH1, jH3, z04])) | ((refine zqd _ rfl (fun hc => ?_) (fun hc => ?_)) <;> (first | (cases hc; done) | ((try simp only [] at hc); (try (exfalso; omega))))) | refine zqg ?_ | refine zqu (by (simp (disch := omega) only [go_sem, Nat.reduceBEq, ↓reduceIte, Nat.reduceLeDiff, j6, jH3]); rfl) rfl ?_ | (refine J _ ?_; clear J K) | (refine zqf (fun hb => ?_) (fun hb => ?_) <;> (have hb2 := hb; try simp only [z03] at hb2) <;> ((first | have F := eq_false hb2 | have F := eq_true hb2); (simp (disch := omega) only [go_sem, Nat.reduceBEq, ↓reduceIte, reduceCtorEq, Nat.reduceAdd, Nat.reduceLeDiff, F, j3, j8, j10, jH0, jH4, z04, e1, g1]); clear hb F; (try (exfalso; omega)))))
   all_goals exact z02 (by simp only [pureD, pureD.pureL, z0d, Bool.and_self]) (Le.refl _)
  ·by_cases e3 : to = id
   ·have g2 : z5n to X = 0 := zdm (by rw [hXi, e3])
    have g3 : be = false := e2.resolve_left fun h => h e3
    repeat' (first | refine zqj ?_ | ((refine z01 (N := 9) rfl fun K J => ?_); (simp (disch := omega) only [go_sem, Nat.reduceBEq, ↓reduceIte, reduceCtorEq, Nat.reduceAdd, Nat.reduceLeDiff, j3, j4, j6, jH0, jH1, jH3, z04, g2])) | ((refine zqd _ rfl (fun hc => ?_) (fun hc => ?_)) <;> (first | (cases hc; done) | ((try simp only [] at hc); (try (exfalso; omega))))) | refine zqg ?_ | refine zqu (by (simp (disch := omega) only [go_sem, Nat.reduceBEq, ↓reduceIte, Nat.reduceLeDiff, j6, jH3]); rfl) rfl ?_ | (refine J _ ?_; clear J K) | (refine zqf (fun hb => ?_) (fun hb => ?_) <;> (have hb2 := hb; try simp only [z03] at hb2) <;> ((first | have F := eq_false hb2 | have F := eq_true hb2); (simp (disch := omega) only [go_sem, Nat.reduceBEq, ↓reduceIte, Int.reduceLT, F, j10, g3]); clear hb F; (try (exfalso; omega)))))
    all_goals exact z02 (by simp only [pureD, pureD.pureL, z0d, Bool.and_self]) (Le.refl _)
   ·have g2 := zuv e1 (by rw [hXi]; exact fun h => e3 h.symm)
    repeat' (first | refine zqj ?_ | ((refine z01 (N := 9) rfl fun K J => ?_); (simp (disch := omega) only [go_sem, Nat.reduceBEq, ↓reduceIte, reduceCtorEq, Nat.reduceAdd, Nat.reduceLeDiff, j3, j4, j6, jH0, jH1, jH3, z04])) | ((refine zqd _ rfl (fun hc => ?_) (fun hc => ?_)) <;> (first | (cases hc; done) | ((try simp only [] at hc); (try (exfalso; omega))))) | refine zqg ?_ | refine zqu (by (simp (disch := omega) only [go_sem, Nat.reduceBEq, ↓reduceIte, Nat.reduceLeDiff, j6, jH3]); rfl) rfl ?_ | (refine J _ ?_; clear J K) | (refine zqf (fun hb => ?_) (fun hb => ?_) <;> (have hb2 := hb; try simp only [z03] at hb2) <;> ((first | have F : (_ : Bool) = _ := hb2 | have F := eq_false hb2 | have F := eq_true hb2); (simp (disch := omega) only [go_sem, Nat.reduceBEq, ↓reduceIte, reduceCtorEq, Nat.reduceAdd, Nat.reduceLeDiff, hb, F, j3, j8, j10, jH0, jH4, z04]); clear hb F; (try (exfalso; omega)))))
    all_goals exact z02 (by simp only [pureD, pureD.pureL, z0d, Bool.and_self]) (Le.refl _)
 rw [if_neg e1] at hI
 simp only [not_or, not_and, Classical.not_not, Bool.not_eq_false] at e1
 obtain ⟨n1, n2, n3⟩ := e1
 have g1 : decide (id = u.id) = false := decide_eq_false fun e => n1 e.symm
 repeat' skip
 (refine z3n (fun st => st.t 3 = .ptr 0 0 /\ st.t 4 = .ptr 1 0 /\ st.t 5 = .ptr 2 0 /\ st.t 6 = .ptr 3 0 /\ st.t 8 = .ptr 4 0 /\ st.t 10 = .bool be /\ st.t 11 = .ptr 5 0 /\ st.H 0 = some (.box 27 (z06 u)) /\ st.H 1 = some (.box 23 (z04 id)) /\ st.H 2 = some (.box 36 (z0k d)) /\ st.H 3 = some (.box 27 [.int .i64 0, .int .i64 0, .int .i64 0, .int .i64 0, .str ByteArray.empty, .nil, .nil, .nil]) /\ st.H 4 = some (.box 23 (z04 to)) /\ st.H 5 = some (.box 27 (z06 X)) /\ st.nx = 7) ?_ ?_); rotate_left; (rintro st ⟨k3, k4, k5, k6, k8, k10, k11, kH0, kH1, kH2, kH3, kH4, kH5, knx⟩); rotate_left
 ·by_cases hin : to ∈ z0c X
  ·obtain ⟨e2, e3⟩ := n3 hin
   have g2 : z5n to X = 0 := zdm (by rw [hXi, e2])
   have g3 : decide (to = u.id) = false := decide_eq_false fun e => n2 e3 e.symm
   repeat' (first | ((refine zqh fun K J => ?_); (simp (disch := omega) only [go_sem, Nat.reduceBEq, ↓reduceIte, reduceCtorEq, Nat.reduceAdd, Nat.reduceLeDiff, Int.reduceLT, j3, j4, j8, j10, jH0, jH1, jH4, z04, g1, g2, g3, e3])) | ((refine zqm _ rfl (fun hc => ?_) (fun hc => ?_)) <;> (first | (cases hc; done) | ((try simp only [] at hc); (try (exfalso; omega))))) | refine zqk ?_ | (refine J _ ?_; clear J K))
   (refine z46 ?_); (simp (disch := omega) only [go_sem, Nat.reduceBEq, j3, j4, j5, j6, j8, j10, jH0, jH1, jH2, jH3, jH4, and_self, z04])
  ·have g2 := zme hin
   cases be with
   | true =>
    have g3 : decide (to = u.id) = false := decide_eq_false fun e => n2 rfl e.symm
    repeat' (first | ((refine zqh fun K J => ?_); (simp (disch := omega) only [go_sem, Nat.reduceBEq, ↓reduceIte, reduceCtorEq, Nat.reduceAdd, Nat.reduceLeDiff, Int.reduceLT, j3, j4, j8, j10, jH0, jH1, jH4, z04, g1, g2, g3])) | ((refine zqm _ rfl (fun hc => ?_) (fun hc => ?_)) <;> (first | (cases hc; done) | ((try simp only [] at hc); (try (exfalso; omega))))) | refine zqk ?_ | (refine J _ ?_; clear J K))
    (refine z46 ?_); (simp (disch := omega) only [go_sem, Nat.reduceBEq, j3, j4, j5, j6, j8, j10, jH0, jH1, jH2, jH3, jH4, and_self, z04])
   | false =>
    repeat' (first | ((refine zqh fun K J => ?_); (simp (disch := omega) only [go_sem, Nat.reduceBEq, ↓reduceIte, reduceCtorEq, Nat.reduceAdd, Nat.reduceLeDiff, Int.reduceLT, j3, j4, j10, jH0, jH1, z04, g1, g2])) | ((refine zqm _ rfl (fun hc => ?_) (fun hc => ?_)) <;> (first | (cases hc; done) | ((try simp only [] at hc); (try (exfalso; omega))))) | refine zqk ?_ | (refine J _ ?_; clear J K))
    (refine z46 ?_); (simp (disch := omega) only [go_sem, Nat.reduceBEq, j3, j4, j5, j6, j8, j10, jH0, jH1, jH2, jH3, jH4, and_self, z04])
 obtain ⟨par, hpar⟩ : ∃ par, par = z3c u to d.it.wh := ⟨_, rfl⟩
 rw [<- hpar] at hI hR0
 obtain ⟨P, hP⟩ : ∃ P, P = (z07 par u).1 := ⟨_, rfl⟩
 obtain ⟨dp, hdp⟩ : ∃ dp, dp = (z5f par u).length := ⟨_, rfl⟩
 rw [<- hP, <- hdp] at hI
 have hparm : par ∈ z0c u := by
  rw [hpar]; unfold z3c
  split
  ·rename_i hb
   obtain ⟨q, l, y, r, a1, _, _, _, _, _, _, h, _⟩ := zd1 s4 (n2 (hbe ▸ hb)) hto
   rw [a1]; exact h
  ·exact hto
 have c5 := c1 to
 have c6 := c2 to
 repeat' (first | refine zqj ?_ | ((first | refine z01 (N := 10) rfl fun K J => ?_ | refine zqs (c5) ?_); (simp (disch := omega) only [go_sem, Nat.reduceBEq, ↓reduceIte, Nat.reduceAdd, Nat.reduceLeDiff, k3, k8, kH0, kH4, knx, z04])) | (refine J _ ?_; clear J K))
 (refine z3n (fun st => st.t 3 = .ptr 0 0 /\ st.t 4 = .ptr 1 0 /\ st.t 5 = .ptr 2 0 /\ st.t 6 = .ptr 3 0 /\ st.t 8 = .ptr 4 0 /\ st.t 10 = .bool be /\ st.t 11 = .ptr 5 0 /\ st.t 15 = .ptr 7 0 /\ st.t 16 = .int .i64 dp /\ st.H 0 = some (.box 27 (z06 u)) /\ st.H 1 = some (.box 23 (z04 id)) /\ st.H 2 = some (.box 36 (z0k d)) /\ st.H 3 = some (.box 27 [.int .i64 0, .int .i64 0, .int .i64 0, .int .i64 0, .str ByteArray.empty, .nil, .nil, .nil]) /\ st.H 4 = some (.box 23 (z04 to)) /\ st.H 5 = some (.box 27 (z06 X)) /\ st.H 7 = some (.box 27 (z06 P)) /\ st.nx = 8) ?_ ?_); rotate_left; (rintro st ⟨m3, m4, m5, m6, m8, m10, m11, m15, m16, mH0, mH1, mH2, mH3, mH4, mH5, mH7, mnx⟩); rotate_left
 ·cases be with
  | true =>
   have hpp : par = (z2u to u).1 := by rw [hpar]; unfold z3c; rw [if_pos hbe]
   rw [zhp s4 (n2 rfl) hto, <- hpp, <- hP, <- hdp] at c6
   have hsp : z11 (z06 (z07 to u).1) 0 (z06 P) = z06 P := z1n _ _ (by rw [z0m, z0m])
   repeat' (first | ((first | refine zqh fun K J => ?_ | refine zqr fun K J => ?_ | refine zqs (c6) ?_); (simp (disch := omega) only [go_sem, Nat.reduceBEq, ↓reduceIte, Nat.reduceAdd, Nat.reduceLeDiff, k3, k8, k10, kH0, kH4, z04])) | ((refine zqm _ rfl (fun hc => ?_) (fun hc => ?_)) <;> (first | (cases hc; done) | ((try simp only [] at hc); (try (exfalso; omega))))) | (refine J _ ?_; clear J K))
   (refine z46 ?_); (simp (disch := omega) only [go_sem, Nat.reduceBEq, k3, k4, k5, k6, k8, k10, k11, kH0, kH1, kH2, kH3, kH4, kH5, and_self, z04, hsp])
  | false =>
   have hpp : par = to := by rw [hpar]; unfold z3c; rw [if_neg (by rw [hbe]; decide)]
   rw [hpp] at hP hdp
   have hdd : z5n to u = (dp : Int) := by rw [zrf hto, hdp]
   repeat' (first | ((refine zqh fun K J => ?_); (simp (disch := omega) only [go_sem, Nat.reduceBEq, k10])) | ((refine zqm _ rfl (fun hc => ?_) (fun hc => ?_)) <;> (first | (cases hc; done) | ((try simp only [] at hc); (try (exfalso; omega))))) | refine zqk ?_ | (refine J _ ?_; clear J K))
   (refine z46 ?_); (simp (disch := omega) only [go_sem, Nat.reduceBEq, k3, k4, k5, k6, k8, k10, k11, kH0, kH1, kH2, kH3, kH4, kH5, and_self, z04, <- hP, hdd])
 have hPz : szB P = true := by rw [hP]; exact hfz par
 obtain ⟨p0, p1, p2, p3, p4, p5, p6⟩ := (z1l P).1 hPz
 have hPi : P.id = par := by
  obtain ⟨_, _, h2, _⟩ := focus par u hparm
  rw [hP]; exact h2
 have hdp8 := hal par
 rw [<- hdp] at hdp8
 have c7 := zc6 P.kind X.kind
 by_cases q1 : z20 P.kind X.kind = true
 case neg =>
  rw [Bool.not_eq_true] at q1
  rw [if_pos q1] at hI
  rw [hRe 9 hI (by decide)]
  rw [q1] at c7
  repeat' (first | refine zqj ?_ | ((first | refine zqh fun K J => ?_ | refine zqs (c7) ?_); (simp (disch := omega) only [go_sem, Nat.reduceBEq, ↓reduceIte, reduceCtorEq, Nat.reduceAdd, Nat.reduceLeDiff, m3, m6, m11, m15, mH0, mH3, mH5, mH7, mnx])) | ((refine zqd _ rfl (fun hc => ?_) (fun hc => ?_)) <;> (first | (cases hc; done) | ((try simp only [] at hc); (try (exfalso; omega))))) | refine zqg ?_ | refine zqu (by (simp (disch := omega) only [go_sem, Nat.reduceBEq, ↓reduceIte, Nat.reduceLeDiff, m6, mH3]); rfl) rfl ?_ | (refine J _ ?_; clear J K))
  exact z02 (by simp only [pureD, pureD.pureL, z0d, Bool.and_self]) (Le.refl _)
 rw [if_neg (by rw [q1]; decide)] at hI
 rw [q1] at c7
 obtain ⟨q, l, y, r, a1, a2, a3, a4, a5, a6, a7, a8, a9⟩ := zd1 s4 n1 hm
 obtain ⟨O, hO⟩ : ∃ O, O = q.setKids (l ++ y :: r) := ⟨_, rfl⟩
 have hOk : O.kids = l ++ y :: r := by rw [hO]; rfl
 have hOi : O.id = q.id := by rw [hO]; rfl
 rw [<- hO] at a4
 have hOz : szB O = true := by have := hfz q.id; rw [a4] at this; exact this
 have hOl : O.kids.length <= 1000000 := ((z1l O).1 hOz).2.2.2.2.2.1
 have hOm : l.length < O.kids.length := by rw [hOk]; simp
 have c8 := c2 id
 rw [zhp s4 n1 hm, a1] at c8
 simp only [a4] at c8
 have hal8 := hal q.id
 have c9 := zwz O.kids hOl l.length hOm
 obtain ⟨K, J⟩ : ∃ K, K = zd0 u id par := ⟨_, rfl⟩
 rw [<- J] at hI
 have hKd : K = if q.id = par then O.kids.eraseIdx l.length else P.kids := by
  rw [J]; unfold zd0
  rw [a1, <- hP]
  simp only [Int.toNat_natCast]
  by_cases e : q.id = par
  ·rw [if_pos e, if_pos e, hP, <- e, a4]
  ·rw [if_neg e, if_neg e]
 have hKl : K.length <= 1000000 := by
  rw [hKd]; split
  ·have := List.length_eraseIdx_le O.kids l.length; omega
  ·exact p5
 repeat' (first | refine zqj ?_ | ((first | refine z01 (N := 16) rfl fun K J => ?_ | refine zqs (c7) ?_ | refine zqs (c8) ?_); (simp (disch := omega) only [go_sem, Nat.reduceBEq, ↓reduceIte, reduceCtorEq, Nat.reduceAdd, Nat.reduceLeDiff, m3, m4, m11, m15, mH0, mH1, mH5, mH7, mnx, z0e])) | ((refine zqd _ rfl (fun hc => ?_) (fun hc => ?_)) <;> (first | (cases hc; done) | ((try simp only [] at hc); (try (exfalso; omega))))) | refine zqb ?_ | (refine J _ ?_; clear J K))
 (refine z3n (fun st => st.t 3 = .ptr 0 0 /\ st.t 4 = .ptr 1 0 /\ st.t 5 = .ptr 2 0 /\ st.t 6 = .ptr 3 0 /\ st.t 8 = .ptr 4 0 /\ st.t 10 = .bool be /\ st.t 11 = .ptr 5 0 /\ st.t 15 = .ptr 7 0 /\ st.t 16 = .int .i64 dp /\ st.t 17 = .ptr 8 0 /\ st.t 19 = .int .i64 l.length /\ st.t 20 = z0e K /\ st.H 0 = some (.box 27 (z06 u)) /\ st.H 1 = some (.box 23 (z04 id)) /\ st.H 2 = some (.box 36 (z0k d)) /\ st.H 3 = some (.box 27 [.int .i64 0, .int .i64 0, .int .i64 0, .int .i64 0, .str ByteArray.empty, .nil, .nil, .nil]) /\ st.H 4 = some (.box 23 (z04 to)) /\ st.H 5 = some (.box 27 (z06 X)) /\ st.H 7 = some (.box 27 (z06 P)) /\ st.H 8 = some (.box 27 (z06 O)) /\ st.nx = 9) ?_ ?_); rotate_left; (rintro st ⟨n3, n4, n5, n6, n8, n10, n11, n15, n16, n17, n19, n20, nH0, nH1, nH2, nH3, nH4, nH5, nH7, nH8, nnx⟩); rotate_left
 ·by_cases e : q.id = par
  ·rw [if_pos e] at hKd
   have hPO : P = O := by rw [hP, <- e, a4]
   have g2 : decide (O.id = P.id) = true := decide_eq_true (by rw [hPO])
   rw [<- hPO] at c9 hKd
   repeat' (first | ((first | refine zqh fun K J => ?_ | refine zqr fun K J => ?_ | refine zqs (c9) ?_); (simp (disch := omega) only [go_sem, Nat.reduceBEq, ↓reduceIte, reduceCtorEq, Nat.reduceAdd, Nat.reduceLeDiff, m15, mH7, z04, z0e, g2])) | ((refine zqm _ rfl (fun hc => ?_) (fun hc => ?_)) <;> (first | (cases hc; done) | ((try simp only [] at hc); (try (exfalso; omega))))) | (refine J _ ?_; clear J K))
   (refine z46 ?_); (simp (disch := omega) only [go_sem, Nat.reduceBEq, m3, m4, m5, m6, m8, m10, m11, m15, m16, mH0, mH1, mH2, mH3, mH4, mH5, mH7, and_self, z04, hKd, z0e])
  ·rw [if_neg e] at hKd
   have g2 : decide (O.id = P.id) = false := decide_eq_false (by rw [hOi, hPi]; exact e)
   repeat' (first | ((refine zqh fun K J => ?_); (simp (disch := omega) only [go_sem, Nat.reduceBEq, ↓reduceIte, reduceCtorEq, Nat.reduceAdd, Nat.reduceLeDiff, m15, mH7, z04, g2])) | ((refine zqm _ rfl (fun hc => ?_) (fun hc => ?_)) <;> (first | (cases hc; done) | ((try simp only [] at hc); (try (exfalso; omega))))) | refine zqk ?_ | (refine J _ ?_; clear J K))
   (refine z46 ?_); (simp (disch := omega) only [go_sem, Nat.reduceBEq, m3, m4, m5, m6, m8, m10, m11, m15, m16, mH0, mH1, mH2, mH3, mH4, mH5, mH7, and_self, z04, hKd, z0e])
 have c10 := zgx K hKl X.kind X.label
 have c11 := zke X hXz (by omega)
 by_cases q2 : z45 K X.kind X.label = true
 ·rw [if_pos q2] at hI
  rw [hRe 10 hI (by decide)]
  rw [q2] at c10
  repeat' (first | refine zqj ?_ | ((first | refine zqh fun K J => ?_ | refine zqs (c10) ?_); (simp (disch := omega) only [go_sem, Nat.reduceBEq, ↓reduceIte, reduceCtorEq, Nat.reduceAdd, Nat.reduceLeDiff, n3, n6, n11, n20, nH0, nH3, nH5, nnx])) | ((refine zqd _ rfl (fun hc => ?_) (fun hc => ?_)) <;> (first | (cases hc; done) | ((try simp only [] at hc); (try (exfalso; omega))))) | refine zqg ?_ | refine zqu (by (simp (disch := omega) only [go_sem, Nat.reduceBEq, ↓reduceIte, Nat.reduceLeDiff, n6, nH3]); rfl) rfl ?_ | (refine J _ ?_; clear J K))
  exact z02 (by simp only [pureD, pureD.pureL, z0d, Bool.and_self]) (Le.refl _)
 rw [if_neg q2] at hI
 rw [Bool.not_eq_true] at q2
 rw [q2] at c10
 by_cases q3 : 64 <= K.length \/ 8 < dp + 1 + depT X
 ·rw [if_pos q3] at hI
  rw [hRe 6 hI (by decide)]
  repeat' (first | refine zqj ?_ | ((first | refine z01 (N := 22) rfl fun K J => ?_ | refine zqs (c10) ?_ | refine zqs (c11) ?_); (simp (disch := omega) only [go_sem, Nat.reduceBEq, ↓reduceIte, reduceCtorEq, Nat.reduceAdd, Nat.reduceLeDiff, n3, n6, n11, n20, nH0, nH3, nH5, nnx, z0e])) | ((refine zqd _ rfl (fun hc => ?_) (fun hc => ?_)) <;> (first | (cases hc; done) | ((try simp only [z03] at hc); (try (exfalso; omega))))) | refine zqb ?_ | refine zqg ?_ | refine zqu (by (simp (disch := omega) only [go_sem, Nat.reduceBEq, ↓reduceIte, Nat.reduceLeDiff, n6, nH3]); rfl) rfl ?_ | (refine J _ ?_; clear J K) | (refine zqf (fun hb => ?_) (fun hb => ?_) <;> (have hb2 := hb; try simp only [z03] at hb2) <;> ((first | have F := eq_false hb2 | have F := eq_true hb2); (simp (disch := omega) only [go_sem, Nat.reduceBEq, ↓reduceIte, Nat.reduceAdd, Nat.reduceLeDiff, F, n11, n16, nH5]); clear hb F; (try (exfalso; omega)))))
  all_goals exact z02 (by simp only [pureD, pureD.pureL, z0d, Bool.and_self]) (Le.refl _)
 rw [if_neg q3] at hI
 rw [hR0 hI]
 by_cases e : to = id
 ·rw [if_pos e]
  have g2 : decide (to = id) = true := decide_eq_true e
  repeat' (first | refine zqj ?_ | ((first | refine zqh fun K J => ?_ | refine zqs (c10) ?_ | refine zqs (c11) ?_); (simp (disch := omega) only [go_sem, Nat.reduceBEq, ↓reduceIte, reduceCtorEq, Nat.reduceAdd, Nat.reduceLeDiff, n3, n4, n6, n8, n11, n20, nH0, nH1, nH3, nH4, nH5, nnx, z0e, z04, g2])) | ((refine zqd _ rfl (fun hc => ?_) (fun hc => ?_)) <;> (first | (cases hc; done) | ((try simp only [z03] at hc); (try (exfalso; omega))))) | refine zqb ?_ | refine zqg ?_ | refine zqu (by (simp (disch := omega) only [go_sem, Nat.reduceBEq, ↓reduceIte, Nat.reduceLeDiff, n6, nH3]); rfl) rfl ?_ | (refine J _ ?_; clear J K) | (refine zqf (fun hb => ?_) (fun hb => ?_) <;> (have hb2 := hb; try simp only [z03] at hb2) <;> ((first | have F := eq_false hb2 | have F := eq_true hb2); (simp (disch := omega) only [go_sem, Nat.reduceBEq, ↓reduceIte, Nat.reduceAdd, Nat.reduceLeDiff, F, n11, n16, nH5]); clear hb F; (try (exfalso; omega)))))
  exact z02 (by simp only [pureD, pureD.pureL, z0d, Bool.and_self]) (Le.refl _)
 rw [if_neg e]
 have g2 : decide (to = id) = false := decide_eq_false e
 obtain ⟨b1, b2, b3⟩ := z8t hst hm hto hI
 obtain ⟨b4, b5, _⟩ := b3 e
 rw [<- hpar] at b4 b5
 rw [<- hX] at b5
 obtain ⟨_, w2⟩ := zq3 s4 n1 hm a1
 rw [a4] at w2
 obtain ⟨W, hW⟩ : ∃ W, W = z0h id u := ⟨_, rfl⟩
 obtain ⟨V, hV⟩ : ∃ V, V = z0h id P := ⟨_, rfl⟩
 have hWz : szB W = true := by rw [hW]; exact zll u hz
 have hVz : szB V = true := by rw [hV]; exact zll P hPz
 have hWd : depT W <= 8 := by rw [hW]; have := zw4 (id := id) u; omega
 have hWs : z0z W = true := by
  obtain ⟨_, _, _, _, _, _, h4, _⟩ := z59 hst n1 hm
  rw [hW]; exact h4
 have hfw : z07 par W = (V, true) := by
  rw [hW, hV, hP]
  exact z8m u s4 n1 hparm fun z hz2 => by
   have : X = z := by rw [hX, hz2]
   rw [<- this]; exact b5
 have hVl : V.kids.length <= 1000000 := ((z1l V).1 hVz).2.2.2.2.2.1
 have hVi : V.id = par := by rw [hV, (z4u id P).1, hPi]
 have c12 := zfd (ztj l.length O) u hz
 rw [show (ztj l.length O).id = q.id from hOi, w2, <- hW] at c12
 rw [show z17 (ztj l.length O) = .agg [.int .i64 O.id.act, .int .i64 O.id.item, .int .i64 O.id.n, .int .i64 O.kind, .str O.label, z0q O.head, z0q O.words, z0e (O.kids.eraseIdx l.length)] from by rw [z17, z10]; rfl] at c12
 have c13 := zae par W hWz (by omega)
 rw [hfw] at c13
 obtain ⟨k, hk⟩ : ∃ k, k = zi1 u id to d.it.wh := ⟨_, rfl⟩
 rw [<- hk, <- hW]
 have hkd : k = if be = true then z2h (fun z => decide (z.id = to)) V.kids + (if d.it.wh = 2 then 1 else 0) else if d.it.wh = 0 then 0 else V.kids.length := by
  rw [hk]; unfold zi1
  rw [<- hpar, <- hP, <- hV, hbe]
 have hfn : be = true -> z2h (fun z => decide (z.id = to)) V.kids < V.kids.length := fun hb => by
  obtain ⟨q2, l2, y2, r2, h1, h2, h3, h4, h5, h6, h7, h8, h9⟩ := zd1 s4 (n2 hb) hto
  have hpm : par = q2.id := by rw [hpar]; unfold z3c; rw [if_pos (hbe.trans hb), h1]
  have := zhu (fun z : T => decide (z.id = to)) V.kids
  have hany : V.kids.any (fun z => decide (z.id = to)) = true := by
   rw [hV, z3r]
   show ((List.filter _ _).map _).any _ = true
   rw [List.any_map, List.any_eq_true]
   refine ⟨y2, List.mem_filter.2 ⟨?_, z8x (by rw [h3]; exact e)⟩, ?_⟩
   ·rw [hP, hpm, h4]; show y2 ∈ l2 ++ y2 :: r2; simp
   ·show decide ((z0h id y2).id = to) = true
    rw [(z4u id y2).1, decide_eq_true h3]
  rw [hany] at this
  exact of_decide_eq_true this
 have hkl : k <= V.kids.length := by
  rw [hkd]
  split
  ·rename_i hb
   have := hfn hb
   split <;> omega
  ·split
   ·exact Nat.zero_le _
   ·exact Nat.le_refl _
 repeat' (first | refine zqj ?_ | ((first | refine z01 (N := 24) rfl fun K J => ?_ | refine zqs (c10) ?_ | refine zqs (c11) ?_); (simp (disch := omega) only [go_sem, Nat.reduceBEq, ↓reduceIte, reduceCtorEq, Nat.reduceAdd, Nat.reduceLeDiff, n4, n8, n11, n20, nH1, nH4, nH5, z0e, z04, g2])) | ((refine zqd _ rfl (fun hc => ?_) (fun hc => ?_)) <;> (first | (cases hc; done) | ((try simp only [z03] at hc); (try (exfalso; omega))))) | refine zqb ?_ | (refine J _ ?_; clear J K) | (refine zqf (fun hb => ?_) (fun hb => ?_) <;> (have hb2 := hb; try simp only [z03] at hb2) <;> ((first | have F := eq_false hb2 | have F := eq_true hb2); (simp (disch := omega) only [go_sem, Nat.reduceBEq, ↓reduceIte, Nat.reduceAdd, Nat.reduceLeDiff, F, n11, n16, nH5]); clear hb F; (try (exfalso; omega)))))
 simp only [z10 O] at nH8
 have hsu : z11 (z06 u) 0 (z06 W) = z06 W := z1n _ _ (by rw [z0m, z0m])
 have hsv : z11 (z06 P) 0 (z06 V) = z06 V := z1n _ _ (by rw [z0m, z0m])
 rw [<- hPi] at c13
 repeat' (first | refine zqj ?_ | ((first | refine z01 (N := 28) rfl fun K J => ?_ | refine zqs (c9) ?_ | refine zqs (c12) ?_ | refine zqs (c13) ?_); (simp (disch := omega) only [go_sem, Nat.reduceBEq, ↓reduceIte, reduceCtorEq, Nat.reduceAdd, Nat.reduceLeDiff, Nat.reduceLT, n3, n15, n17, n19, nH0, nH7, nH8, nnx, z0e, hsu, hsv, List.set_cons_succ, List.set_cons_zero])) | (refine J _ ?_; clear J K))
 (refine z3n (fun st => st.t 3 = .ptr 0 0 /\ st.t 5 = .ptr 2 0 /\ st.t 6 = .ptr 3 0 /\ st.t 8 = .ptr 4 0 /\ st.t 10 = .bool be /\ st.t 11 = .ptr 5 0 /\ st.t 15 = .ptr 7 0 /\ st.t 21 = .int .i64 (if d.it.wh = 0 then 0 else (V.kids.length : Int)) /\ st.H 0 = some (.box 27 (z06 W)) /\ st.H 2 = some (.box 36 (z0k d)) /\ st.H 3 = some (.box 27 [.int .i64 0, .int .i64 0, .int .i64 0, .int .i64 0, .str ByteArray.empty, .nil, .nil, .nil]) /\ st.H 4 = some (.box 23 (z04 to)) /\ st.H 5 = some (.box 27 (z06 X)) /\ st.H 7 = some (.box 27 (z06 V)) /\ st.nx = 9) ?_ ?_); rotate_left; (rintro st ⟨r3, r5, r6, r8, r10, r11, r15, r21, rH0, rH2, rH3, rH4, rH5, rH7, rnx⟩); rotate_left
 ·repeat' (first | ((first | refine zqh fun K J => ?_ | refine zqr fun K J => ?_); (simp (disch := omega) only [go_sem, Nat.reduceBEq, ↓reduceIte, reduceCtorEq, Nat.reduceAdd, n5, nH2])) | ((refine zqm _ rfl (fun hc => ?_) (fun hc => ?_)) <;> (((try simp only [z03] at hc); (try (exfalso; omega))))) | refine zqk ?_ | (refine J _ ?_; clear J K))
  all_goals ((refine z46 ?_); (simp (disch := omega) only [go_sem, Nat.reduceBEq, ↓reduceIte, n3, n5, n6, n8, n10, n11, n15, nH0, nH2, nH3, nH4, nH5, nH7, and_self, hc]))
 (refine z54 (fun st => st.t 3 = .ptr 0 0 /\ st.t 5 = .ptr 2 0 /\ st.t 6 = .ptr 3 0 /\ st.t 8 = .ptr 4 0 /\ st.t 10 = .bool be /\ st.t 11 = .ptr 5 0 /\ st.t 15 = .ptr 7 0 /\ st.t 21 = .int .i64 k /\ st.H 0 = some (.box 27 (z06 W)) /\ st.H 2 = some (.box 36 (z0k d)) /\ st.H 3 = some (.box 27 [.int .i64 0, .int .i64 0, .int .i64 0, .int .i64 0, .str ByteArray.empty, .nil, .nil, .nil]) /\ st.H 4 = some (.box 23 (z04 to)) /\ st.H 5 = some (.box 27 (z06 X)) /\ st.H 7 = some (.box 27 (z06 V)) /\ st.nx = 9) ?_ ?_); rotate_left; (rintro st ⟨t3, t5, t6, t8, t10, t11, t15, t21, tH0, tH2, tH3, tH4, tH5, tH7, tnx⟩); rotate_left
 ·cases be with
  | true =>
   have hf := hfn rfl
   have c14 := z006 V.kids hVl to
   unfold atI at c14
   rw [if_pos hf] at c14
   rw [if_pos rfl] at hkd
   by_cases h2 : d.it.wh = 2
   ·rw [if_pos h2] at hkd
    have hki : (k : Int) = (z2h (fun z => decide (z.id = to)) V.kids : Int) + 1 := by omega
    repeat' (first | ((first | refine zqh fun K J => ?_ | refine zqr fun K J => ?_ | refine zqs (c14) ?_); (simp (disch := omega) only [go_sem, Nat.reduceBEq, ↓reduceIte, reduceCtorEq, Nat.reduceAdd, Nat.reduceLeDiff, Int.reduceEq, r5, r8, r10, r15, r21, rH2, rH4, rH7, rnx, z0e, z04, h2])) | ((refine zqm _ rfl (fun hc => ?_) (fun hc => ?_)) <;> (first | (cases hc; done) | ((try simp only [] at hc); (try (exfalso; omega))))) | (refine J _ ?_; clear J K))
    (refine z46 ?_); (simp (disch := omega) only [go_sem, Nat.reduceBEq, r3, r5, r6, r8, r10, r11, r15, r21, rH0, rH2, rH3, rH4, rH5, rH7, and_self, z04, hki])
   ·rw [if_neg h2, Nat.add_zero] at hkd
    repeat' (first | ((first | refine zqh fun K J => ?_ | refine zqs (c14) ?_); (simp (disch := omega) only [go_sem, Nat.reduceBEq, ↓reduceIte, reduceCtorEq, Nat.reduceAdd, Nat.reduceLeDiff, r5, r8, r10, r15, rH2, rH4, rH7, rnx, z0e, z04])) | ((refine zqm _ rfl (fun hc => ?_) (fun hc => ?_)) <;> (first | (cases hc; done) | ((try simp only [z03] at hc); (try (exfalso; omega))))) | refine zqk ?_ | (refine J _ ?_; clear J K))
    (refine z46 ?_); (simp (disch := omega) only [go_sem, Nat.reduceBEq, r3, r5, r6, r8, r10, r11, r15, r21, rH0, rH2, rH3, rH4, rH5, rH7, and_self, z04, hkd])
  | false =>
   rw [if_neg (by decide)] at hkd
   have hki : (if d.it.wh = 0 then 0 else (V.kids.length : Int)) = (k : Int) := by
    rw [hkd]; split <;> rfl
   repeat' (first | ((refine zqh fun K J => ?_); (simp (disch := omega) only [go_sem, r10])) | ((refine zqm _ rfl (fun hc => ?_) (fun hc => ?_)) <;> (first | (cases hc; done) | ((try simp only [] at hc); (try (exfalso; omega))))) | refine zqk ?_ | (refine J _ ?_; clear J K))
   (refine z46 ?_); (simp (disch := omega) only [go_sem, Nat.reduceBEq, r3, r5, r6, r8, r10, r11, r15, r21, rH0, rH2, rH3, rH4, rH5, rH7, rnx, and_self, hki])
 have c15 := zu1 V.kids hVl k hkl X
 have c16 := zfd (z5l k X V) W hWz
 rw [show (z5l k X V).id = par from hVi] at c16
 rw [show z17 (z5l k X V) = .agg [.int .i64 V.id.act, .int .i64 V.id.item, .int .i64 V.id.n, .int .i64 V.kind, .str V.label, z0q V.head, z0q V.words, z0e (V.kids.take k ++ X :: V.kids.drop k)] from by rw [z17, z10]; rfl] at c16
 rw [<- z9k (z4y hWs) hfw]
 simp only [z10 V] at tH7
 repeat' (first | ((first | refine zqh fun K J => ?_ | refine zqs (c15) ?_ | refine zqs (c16) ?_); (simp (disch := omega) only [go_sem, Nat.reduceBEq, ↓reduceIte, reduceCtorEq, Nat.reduceAdd, Nat.reduceLeDiff, Nat.reduceLT, t3, t6, t11, t15, t21, tH0, tH3, tH5, tH7, tnx, z0e, List.set_cons_succ, List.set_cons_zero])) | refine zqn ?_ | refine zqu (by (simp (disch := omega) only [go_sem, Nat.reduceBEq, ↓reduceIte, Nat.reduceLeDiff, t6, tH3]); rfl) rfl ?_ | (refine J _ ?_; clear J K))
 exact z02 (by simp only [pureD, pureD.pureL, z0d, Bool.and_self]) (Le.refl _)
def zIt : List D := [.int .i64 0, .nil, .nil, .int .i64 0, .int .i64 0, .int .i64 0, .int .i64 0, .int .i64 0, .int .i64 0, .str ⟨#[]⟩, .nil, .nil, .nil, .nil, .nil, .str ⟨#[]⟩, .str ⟨#[]⟩, .int .i64 0, .int .i64 0, .str ⟨#[]⟩, .int .i64 0, .int .i64 0, .int .i64 0, .str ⟨#[]⟩, .nil]
theorem z5i {ds : List D} {y : It} (h : LeL ds (z0i y)) : Le (.agg ds) (zc5 y) := Le.agg h
theorem zw5 (x : It) : zhz x = .mk x.kind (if x.kind <= 6 then x.at_ else []) (if x.kind = 6 then x.to else []) (if x.kind = 0 \/ x.kind = 6 then x.wh else 0) (if x.kind = 2 \/ x.kind = 3 then x.nth else 0) (if x.kind = 0 then x.unit else T.zero)
  (if x.kind = 2 \/ x.kind = 3 then x.old else []) (if x.kind = 2 \/ x.kind = 3 \/ x.kind = 4 then x.new else []) (if x.kind = 5 then x.label else z1j) (if x.kind <= 6 then x.for_ else z1j) (if x.kind <= 6 then x.sk else 0) (if x.kind <= 6 then x.sd else 0) (if x.kind <= 6 then x.se else z1j)
  (if x.kind = 7 \/ x.kind = 8 \/ x.kind = 9 \/ x.kind = 11 then x.act else 0) (if x.kind = 7 \/ x.kind = 8 \/ x.kind = 9 \/ x.kind = 11 then x.item else 0) (if x.kind <= 6 \/ x.kind = 11 then 0 else x.day) (if x.kind = 10 then x.event else z1j) (if x.kind = 11 then x.by_ else []) := by
 unfold zhz
 simp only [decide_eq_true_eq]
set_option maxHeartbeats 16000000 in
theorem zzd (x : It) (hk : 0 <= x.kind /\ x.kind <= 11) : PC Tryz.prog 21 [zc5 x] (zc5 (zhz x)) := by
 refine z1y 3 (by simp only [pureD.pureL, z48, Bool.and_self]) (z48 _) (z1w [8000000, 600011, 900000, 600013, 900000, 600015, 900000, 600016, 900002, 600017, 900002, 600018, 900002, 600027, 900000, 600029, 900000, 600030, 900002, 600031, 900002, 600036, 900000, 600038, 900000, 600040, 900000, 600041, 900002, 600042, 900002, 600043, 900002, 600057, 900000, 600059, 900000, 600060, 900002, 600061, 900002, 600067, 900000, 600069, 900000, 600070, 900002, 600071, 900002, 600080, 900000, 600082, 900000, 600084, 900000, 600085, 900002, 600086, 900002, 600087, 900002, 600088, 900002] Tryz.func21 rfl (by decide +kernel) z0j (by decide +kernel) (by simp [Tryz.ntmps21]) ?_)
 show awp _ _ (Code.seq _ _) _ _
 rw [show Tryz.f21.results.toList = [.cell 2 34] from rfl]
 rw [zw5]
 have hzl : zIt.length = 25 := rfl
 have hszz : True := trivial
 rcases (show x.kind = 0 \/ x.kind = 1 \/ x.kind = 2 \/ x.kind = 3 \/ x.kind = 4 \/ x.kind = 5 \/ x.kind = 6 \/ x.kind = 7 \/ x.kind = 8 \/ x.kind = 9 \/ x.kind = 10 \/ x.kind = 11 by omega) with h | h | h | h | h | h | h | h | h | h | h | h
 ·skip
  repeat' (first | refine zqj ?_ | ((first | refine z01 (N := 5) rfl fun K J => ?_ | refine z1a (N := 5) rfl (by decide +kernel) fun K J => ?_); (simp (disch := omega) only [go_sem, Nat.reduceBEq, Nat.reduceEqDiff, ↓reduceIte, reduceCtorEq, Nat.reduceAdd, Nat.reduceLeDiff, Int.reduceLE, h, List.set_cons_succ, List.set_cons_zero])) | ((refine zqd _ rfl (fun hc => ?_) (fun hc => ?_)) <;> (first | (cases hc; done) | ((try simp only [] at hc); (try (exfalso; omega))))) | (refine J _ ?_; clear J K))
  (refine z1c (fun st => st.t 1 = .ptr 0 0 /\ st.t 2 = .ptr 1 0 /\ st.t 3 = .ptr 2 0 /\ st.H 0 = some (.box 34 (z0i x)) /\ st.H 1 = some (.box 34 zIt) /\ st.H 2 = some (.box 34 [.int .i64 0, z0a x.at_, .nil, .int .i64 0, .int .i64 0, .int .i64 0, .int .i64 0, .int .i64 0, .int .i64 0, .str ⟨#[]⟩, .nil, .nil, .nil, .nil, .nil, .str ⟨#[]⟩, .str x.for_, .int .i64 x.sk, .int .i64 x.sd, .str x.se, .int .i64 0, .int .i64 0, .int .i64 0, .str ⟨#[]⟩, .nil]) /\ st.nx = 3) ?_ ?_); rotate_left; (rintro st ⟨p1, p2, p3, pH0, pH1, pH2, pnx⟩); rotate_left
  ·(simp (disch := omega) only [go_sem, Nat.reduceBEq, true_and, and_true])
   first | exact ⟨rfl, rfl⟩ | exact rfl
  repeat' (first | ((first | refine z01 (N := 25) rfl fun K J => ?_ | refine zqq (by decide +kernel) fun K J => ?_); (simp (disch := omega) only [go_sem, Nat.reduceBEq, Nat.reduceEqDiff, ↓reduceIte, reduceCtorEq, Nat.reduceAdd, Nat.reduceLeDiff, Nat.reduceLT, p1, p3, pH0, pH2, pnx, h, z0a, List.set_cons_succ, List.set_cons_zero])) | ((refine zqm _ rfl (fun hc => ?_) (fun hc => ?_)) <;> (first | (cases hc; done) | ((try simp only [] at hc); (try (exfalso; omega))))) | refine zqa ?_ | refine zqv ?_ | refine zqy ?_ | (refine J _ ?_; clear J K))
  obtain ⟨L, hL⟩ : ∃ L : List D, L = [.int .i64 0, z0a x.at_, .nil, .int .i64 x.wh, .int .i64 0, .int .i64 x.unit.id.act, .int .i64 x.unit.id.item, .int .i64 x.unit.id.n, .int .i64 x.unit.kind, .str x.unit.label, z0q x.unit.head, z0q x.unit.words, z0e x.unit.kids, .nil, .nil, .str ⟨#[]⟩, .str x.for_, .int .i64 x.sk, .int .i64 x.sd, .str x.se, .int .i64 0, .int .i64 0, .int .i64 0, .str ⟨#[]⟩, .nil] := ⟨_, rfl⟩
  have hl1 : L.length = 25 := by rw [hL]; rfl
  have hl2 : List.take 25 L = L := List.take_of_length_le (by omega)
  have hl3 : z11 zIt 0 L = L := z1n _ _ (by rw [hl1]; rfl)
  (refine z1c (fun st => st.t 2 = .ptr 1 0 /\ st.t 3 = .ptr 2 0 /\ st.H 1 = some (.box 34 zIt) /\ st.H 2 = some (.box 34 L) /\ st.nx = 3) ?_ ?_); rotate_left; (rintro st ⟨r2, r3, rH1, rH2, rnx⟩); rotate_left
  ·(simp (disch := omega) only [go_sem, Nat.reduceBEq, true_and, and_true, p2, p3, pH1, pH2, hL, z0a])
   rw [z10]; rfl
  repeat' (first | ((refine zqh fun K J => ?_); (simp (disch := omega) only [go_sem, Nat.reduceBEq, ↓reduceIte, Nat.reduceAdd, Nat.reduceLeDiff, r2, r3, rH1, rH2, rnx, hl1, hl2, hl3, hzl])) | refine zqn ?_ | refine zqu (by (simp (disch := omega) only [go_sem, Nat.reduceBEq, ↓reduceIte, Nat.reduceLeDiff, r2, rH1, hl1, hl2]); rfl) rfl ?_ | (refine J _ ?_; clear J K))
  refine z02 ?_ (z5i ?_)
  ·rw [hL]
   simp only [pureD, pureD.pureL, z0r, z0x, z1e, Bool.and_self]
  ·clear hl1 hl2 hl3 r2 r3 rH1 rH2 rnx p1 p2 p3 pH0 pH1 pH2 pnx
   cases x
   simp only [It.kind, It.at_, It.to, It.wh, It.nth, It.unit, It.old, It.new, It.label, It.for_, It.sk, It.sd, It.se, It.act, It.item, It.day, It.event, It.by_] at h hL ⊢
   subst h
   rw [z0g, hL]
   repeat' (first | exact trivial | exact Le.refl _ | exact Le.nil _ | refine And.intro ?_ ?_)
 ·skip
  repeat' (first | refine zqj ?_ | ((first | refine z01 (N := 5) rfl fun K J => ?_ | refine z1a (N := 5) rfl (by decide +kernel) fun K J => ?_); (simp (disch := omega) only [go_sem, Nat.reduceBEq, Nat.reduceEqDiff, ↓reduceIte, reduceCtorEq, Nat.reduceAdd, Nat.reduceLeDiff, Int.reduceLE, h, List.set_cons_succ, List.set_cons_zero])) | ((refine zqd _ rfl (fun hc => ?_) (fun hc => ?_)) <;> (first | (cases hc; done) | ((try simp only [] at hc); (try (exfalso; omega))))) | (refine J _ ?_; clear J K))
  (refine z1c (fun st => st.t 1 = .ptr 0 0 /\ st.t 2 = .ptr 1 0 /\ st.t 3 = .ptr 2 0 /\ st.H 0 = some (.box 34 (z0i x)) /\ st.H 1 = some (.box 34 zIt) /\ st.H 2 = some (.box 34 [.int .i64 1, z0a x.at_, .nil, .int .i64 0, .int .i64 0, .int .i64 0, .int .i64 0, .int .i64 0, .int .i64 0, .str ⟨#[]⟩, .nil, .nil, .nil, .nil, .nil, .str ⟨#[]⟩, .str x.for_, .int .i64 x.sk, .int .i64 x.sd, .str x.se, .int .i64 0, .int .i64 0, .int .i64 0, .str ⟨#[]⟩, .nil]) /\ st.nx = 3) ?_ ?_); rotate_left; (rintro st ⟨p1, p2, p3, pH0, pH1, pH2, pnx⟩); rotate_left
  ·(simp (disch := omega) only [go_sem, Nat.reduceBEq, true_and, and_true])
   first | exact ⟨rfl, rfl⟩ | exact rfl
  repeat' (first | refine zqj ?_ | ((refine z01 (N := 25) rfl fun K J => ?_); (simp (disch := omega) only [go_sem, Nat.reduceBEq, ↓reduceIte, reduceCtorEq, Nat.reduceAdd, Int.reduceEq, p1, pH0, pnx, h])) | ((first | refine zqd _ rfl (fun hc => ?_) (fun hc => ?_) | refine zqm _ rfl (fun hc => ?_) (fun hc => ?_)) <;> (first | (cases hc; done) | ((try simp only [] at hc); (try (exfalso; omega))))) | refine zqa ?_ | refine zqk ?_ | refine zqv ?_ | refine zqy ?_ | (refine J _ ?_; clear J K))
  obtain ⟨L, hL⟩ : ∃ L : List D, L = [.int .i64 1, z0a x.at_, .nil, .int .i64 0, .int .i64 0, .int .i64 0, .int .i64 0, .int .i64 0, .int .i64 0, .str ⟨#[]⟩, .nil, .nil, .nil, .nil, .nil, .str ⟨#[]⟩, .str x.for_, .int .i64 x.sk, .int .i64 x.sd, .str x.se, .int .i64 0, .int .i64 0, .int .i64 0, .str ⟨#[]⟩, .nil] := ⟨_, rfl⟩
  have hl1 : L.length = 25 := by rw [hL]; rfl
  have hl2 : List.take 25 L = L := List.take_of_length_le (by omega)
  have hl3 : z11 zIt 0 L = L := z1n _ _ (by rw [hl1]; rfl)
  (refine z1c (fun st => st.t 2 = .ptr 1 0 /\ st.t 3 = .ptr 2 0 /\ st.H 1 = some (.box 34 zIt) /\ st.H 2 = some (.box 34 L) /\ st.nx = 3) ?_ ?_); rotate_left; (rintro st ⟨r2, r3, rH1, rH2, rnx⟩); rotate_left
  ·(simp (disch := omega) only [go_sem, Nat.reduceBEq, and_self, p2, p3, pH1, pH2, hL, z0a])
  repeat' (first | ((refine zqh fun K J => ?_); (simp (disch := omega) only [go_sem, Nat.reduceBEq, ↓reduceIte, Nat.reduceAdd, Nat.reduceLeDiff, r2, r3, rH1, rH2, rnx, hl1, hl2, hl3, hzl])) | refine zqn ?_ | refine zqu (by (simp (disch := omega) only [go_sem, Nat.reduceBEq, ↓reduceIte, Nat.reduceLeDiff, r2, rH1, hl1, hl2]); rfl) rfl ?_ | (refine J _ ?_; clear J K))
  refine z02 ?_ (z5i ?_)
  ·rw [hL]
   simp only [pureD, pureD.pureL, z0r, Bool.and_self]
  ·clear hl1 hl2 hl3 r2 r3 rH1 rH2 rnx p1 p2 p3 pH0 pH1 pH2 pnx
   cases x
   simp only [It.kind, It.at_, It.to, It.wh, It.nth, It.unit, It.old, It.new, It.label, It.for_, It.sk, It.sd, It.se, It.act, It.item, It.day, It.event, It.by_] at h hL ⊢
   subst h
   rw [z0g, hL]
   repeat' (first | exact trivial | exact Le.refl _ | exact Le.nil _ | refine And.intro ?_ ?_)
 ·skip
  repeat' (first | refine zqj ?_ | ((first | refine z01 (N := 5) rfl fun K J => ?_ | refine z1a (N := 5) rfl (by decide +kernel) fun K J => ?_); (simp (disch := omega) only [go_sem, Nat.reduceBEq, Nat.reduceEqDiff, ↓reduceIte, reduceCtorEq, Nat.reduceAdd, Nat.reduceLeDiff, Int.reduceLE, h, List.set_cons_succ, List.set_cons_zero])) | ((refine zqd _ rfl (fun hc => ?_) (fun hc => ?_)) <;> (first | (cases hc; done) | ((try simp only [] at hc); (try (exfalso; omega))))) | (refine J _ ?_; clear J K))
  (refine z1c (fun st => st.t 1 = .ptr 0 0 /\ st.t 2 = .ptr 1 0 /\ st.t 3 = .ptr 2 0 /\ st.H 0 = some (.box 34 (z0i x)) /\ st.H 1 = some (.box 34 zIt) /\ st.H 2 = some (.box 34 [.int .i64 2, z0a x.at_, .nil, .int .i64 0, .int .i64 0, .int .i64 0, .int .i64 0, .int .i64 0, .int .i64 0, .str ⟨#[]⟩, .nil, .nil, .nil, .nil, .nil, .str ⟨#[]⟩, .str x.for_, .int .i64 x.sk, .int .i64 x.sd, .str x.se, .int .i64 0, .int .i64 0, .int .i64 0, .str ⟨#[]⟩, .nil]) /\ st.nx = 3) ?_ ?_); rotate_left; (rintro st ⟨p1, p2, p3, pH0, pH1, pH2, pnx⟩); rotate_left
  ·(simp (disch := omega) only [go_sem, Nat.reduceBEq, true_and, and_true])
   first | exact ⟨rfl, rfl⟩ | exact rfl
  repeat' (first | refine zqj ?_ | ((first | refine z01 (N := 25) rfl fun K J => ?_ | refine zqq (by decide +kernel) fun K J => ?_); (simp (disch := omega) only [go_sem, Nat.reduceBEq, Nat.reduceEqDiff, ↓reduceIte, reduceCtorEq, Nat.reduceAdd, Nat.reduceLeDiff, Nat.reduceLT, Int.reduceEq, p1, p3, pH0, pH2, pnx, h, z0a, z3i, List.set_cons_succ, List.set_cons_zero])) | ((first | refine zqd _ rfl (fun hc => ?_) (fun hc => ?_) | refine zqm _ rfl (fun hc => ?_) (fun hc => ?_)) <;> (first | (cases hc; done) | ((try simp only [] at hc); (try (exfalso; omega))))) | refine zqa ?_ | refine zqb ?_ | refine zqv ?_ | refine zqy ?_ | (refine J _ ?_; clear J K))
  obtain ⟨L, hL⟩ : ∃ L : List D, L = [.int .i64 2, z0a x.at_, .nil, .int .i64 0, .int .i64 x.nth, .int .i64 0, .int .i64 0, .int .i64 0, .int .i64 0, .str ⟨#[]⟩, .nil, .nil, .nil, z3i x.old, z3i x.new, .str ⟨#[]⟩, .str x.for_, .int .i64 x.sk, .int .i64 x.sd, .str x.se, .int .i64 0, .int .i64 0, .int .i64 0, .str ⟨#[]⟩, .nil] := ⟨_, rfl⟩
  have hl1 : L.length = 25 := by rw [hL]; rfl
  have hl2 : List.take 25 L = L := List.take_of_length_le (by omega)
  have hl3 : z11 zIt 0 L = L := z1n _ _ (by rw [hl1]; rfl)
  (refine z1c (fun st => st.t 2 = .ptr 1 0 /\ st.t 3 = .ptr 2 0 /\ st.H 1 = some (.box 34 zIt) /\ st.H 2 = some (.box 34 L) /\ st.nx = 3) ?_ ?_); rotate_left; (rintro st ⟨r2, r3, rH1, rH2, rnx⟩); rotate_left
  ·(simp (disch := omega) only [go_sem, Nat.reduceBEq, and_self, p2, p3, pH1, pH2, hL, z0a, z3i])
  repeat' (first | ((refine zqh fun K J => ?_); (simp (disch := omega) only [go_sem, Nat.reduceBEq, ↓reduceIte, Nat.reduceAdd, Nat.reduceLeDiff, r2, r3, rH1, rH2, rnx, hl1, hl2, hl3, hzl])) | refine zqn ?_ | refine zqu (by (simp (disch := omega) only [go_sem, Nat.reduceBEq, ↓reduceIte, Nat.reduceLeDiff, r2, rH1, hl1, hl2]); rfl) rfl ?_ | (refine J _ ?_; clear J K))
  refine z02 ?_ (z5i ?_)
  ·rw [hL]
   simp only [pureD, pureD.pureL, z0r, z2v, Bool.and_self]
  ·clear hl1 hl2 hl3 r2 r3 rH1 rH2 rnx p1 p2 p3 pH0 pH1 pH2 pnx
   cases x
   simp only [It.kind, It.at_, It.to, It.wh, It.nth, It.unit, It.old, It.new, It.label, It.for_, It.sk, It.sd, It.se, It.act, It.item, It.day, It.event, It.by_] at h hL ⊢
   subst h
   rw [z0g, hL]
   repeat' (first | exact trivial | exact Le.refl _ | exact Le.nil _ | refine And.intro ?_ ?_)
 ·skip
  repeat' (first | refine zqj ?_ | ((first | refine z01 (N := 5) rfl fun K J => ?_ | refine z1a (N := 5) rfl (by decide +kernel) fun K J => ?_); (simp (disch := omega) only [go_sem, Nat.reduceBEq, Nat.reduceEqDiff, ↓reduceIte, reduceCtorEq, Nat.reduceAdd, Nat.reduceLeDiff, Int.reduceLE, h, List.set_cons_succ, List.set_cons_zero])) | ((refine zqd _ rfl (fun hc => ?_) (fun hc => ?_)) <;> (first | (cases hc; done) | ((try simp only [] at hc); (try (exfalso; omega))))) | (refine J _ ?_; clear J K))
  (refine z1c (fun st => st.t 1 = .ptr 0 0 /\ st.t 2 = .ptr 1 0 /\ st.t 3 = .ptr 2 0 /\ st.H 0 = some (.box 34 (z0i x)) /\ st.H 1 = some (.box 34 zIt) /\ st.H 2 = some (.box 34 [.int .i64 3, z0a x.at_, .nil, .int .i64 0, .int .i64 0, .int .i64 0, .int .i64 0, .int .i64 0, .int .i64 0, .str ⟨#[]⟩, .nil, .nil, .nil, .nil, .nil, .str ⟨#[]⟩, .str x.for_, .int .i64 x.sk, .int .i64 x.sd, .str x.se, .int .i64 0, .int .i64 0, .int .i64 0, .str ⟨#[]⟩, .nil]) /\ st.nx = 3) ?_ ?_); rotate_left; (rintro st ⟨p1, p2, p3, pH0, pH1, pH2, pnx⟩); rotate_left
  ·(simp (disch := omega) only [go_sem, Nat.reduceBEq, true_and, and_true])
   first | exact ⟨rfl, rfl⟩ | exact rfl
  repeat' (first | refine zqj ?_ | ((first | refine z01 (N := 25) rfl fun K J => ?_ | refine zqq (by decide +kernel) fun K J => ?_); (simp (disch := omega) only [go_sem, Nat.reduceBEq, Nat.reduceEqDiff, ↓reduceIte, reduceCtorEq, Nat.reduceAdd, Nat.reduceLeDiff, Nat.reduceLT, Int.reduceEq, p1, p3, pH0, pH2, pnx, h, z0a, z3i, List.set_cons_succ, List.set_cons_zero])) | ((first | refine zqd _ rfl (fun hc => ?_) (fun hc => ?_) | refine zqm _ rfl (fun hc => ?_) (fun hc => ?_)) <;> (first | (cases hc; done) | ((try simp only [] at hc); (try (exfalso; omega))))) | refine zqa ?_ | refine zqv ?_ | refine zqy ?_ | (refine J _ ?_; clear J K))
  obtain ⟨L, hL⟩ : ∃ L : List D, L = [.int .i64 3, z0a x.at_, .nil, .int .i64 0, .int .i64 x.nth, .int .i64 0, .int .i64 0, .int .i64 0, .int .i64 0, .str ⟨#[]⟩, .nil, .nil, .nil, z3i x.old, z3i x.new, .str ⟨#[]⟩, .str x.for_, .int .i64 x.sk, .int .i64 x.sd, .str x.se, .int .i64 0, .int .i64 0, .int .i64 0, .str ⟨#[]⟩, .nil] := ⟨_, rfl⟩
  have hl1 : L.length = 25 := by rw [hL]; rfl
  have hl2 : List.take 25 L = L := List.take_of_length_le (by omega)
  have hl3 : z11 zIt 0 L = L := z1n _ _ (by rw [hl1]; rfl)
  (refine z1c (fun st => st.t 2 = .ptr 1 0 /\ st.t 3 = .ptr 2 0 /\ st.H 1 = some (.box 34 zIt) /\ st.H 2 = some (.box 34 L) /\ st.nx = 3) ?_ ?_); rotate_left; (rintro st ⟨r2, r3, rH1, rH2, rnx⟩); rotate_left
  ·(simp (disch := omega) only [go_sem, Nat.reduceBEq, and_self, p2, p3, pH1, pH2, hL, z0a, z3i])
  repeat' (first | ((refine zqh fun K J => ?_); (simp (disch := omega) only [go_sem, Nat.reduceBEq, ↓reduceIte, Nat.reduceAdd, Nat.reduceLeDiff, r2, r3, rH1, rH2, rnx, hl1, hl2, hl3, hzl])) | refine zqn ?_ | refine zqu (by (simp (disch := omega) only [go_sem, Nat.reduceBEq, ↓reduceIte, Nat.reduceLeDiff, r2, rH1, hl1, hl2]); rfl) rfl ?_ | (refine J _ ?_; clear J K))
  refine z02 ?_ (z5i ?_)
  ·rw [hL]
   simp only [pureD, pureD.pureL, z0r, z2v, Bool.and_self]
  ·clear hl1 hl2 hl3 r2 r3 rH1 rH2 rnx p1 p2 p3 pH0 pH1 pH2 pnx
   cases x
   simp only [It.kind, It.at_, It.to, It.wh, It.nth, It.unit, It.old, It.new, It.label, It.for_, It.sk, It.sd, It.se, It.act, It.item, It.day, It.event, It.by_] at h hL ⊢
   subst h
   rw [z0g, hL]
   repeat' (first | exact trivial | exact Le.refl _ | exact Le.nil _ | refine And.intro ?_ ?_)
 ·skip
  repeat' (first | refine zqj ?_ | ((first | refine z01 (N := 5) rfl fun K J => ?_ | refine z1a (N := 5) rfl (by decide +kernel) fun K J => ?_); (simp (disch := omega) only [go_sem, Nat.reduceBEq, Nat.reduceEqDiff, ↓reduceIte, reduceCtorEq, Nat.reduceAdd, Nat.reduceLeDiff, Int.reduceLE, h, List.set_cons_succ, List.set_cons_zero])) | ((refine zqd _ rfl (fun hc => ?_) (fun hc => ?_)) <;> (first | (cases hc; done) | ((try simp only [] at hc); (try (exfalso; omega))))) | (refine J _ ?_; clear J K))
  (refine z1c (fun st => st.t 1 = .ptr 0 0 /\ st.t 2 = .ptr 1 0 /\ st.t 3 = .ptr 2 0 /\ st.H 0 = some (.box 34 (z0i x)) /\ st.H 1 = some (.box 34 zIt) /\ st.H 2 = some (.box 34 [.int .i64 4, z0a x.at_, .nil, .int .i64 0, .int .i64 0, .int .i64 0, .int .i64 0, .int .i64 0, .int .i64 0, .str ⟨#[]⟩, .nil, .nil, .nil, .nil, .nil, .str ⟨#[]⟩, .str x.for_, .int .i64 x.sk, .int .i64 x.sd, .str x.se, .int .i64 0, .int .i64 0, .int .i64 0, .str ⟨#[]⟩, .nil]) /\ st.nx = 3) ?_ ?_); rotate_left; (rintro st ⟨p1, p2, p3, pH0, pH1, pH2, pnx⟩); rotate_left
  ·(simp (disch := omega) only [go_sem, Nat.reduceBEq, true_and, and_true])
   first | exact ⟨rfl, rfl⟩ | exact rfl
  repeat' (first | refine zqj ?_ | ((first | refine z01 (N := 25) rfl fun K J => ?_ | refine zqr fun K J => ?_); (simp (disch := omega) only [go_sem, Nat.reduceBEq, ↓reduceIte, reduceCtorEq, Nat.reduceAdd, Nat.reduceLeDiff, Nat.reduceLT, Int.reduceEq, p1, p3, pH0, pH2, pnx, h, z0a, z3i, List.set_cons_succ, List.set_cons_zero])) | ((first | refine zqd _ rfl (fun hc => ?_) (fun hc => ?_) | refine zqm _ rfl (fun hc => ?_) (fun hc => ?_)) <;> (first | (cases hc; done) | ((try simp only [] at hc); (try (exfalso; omega))))) | refine zqa ?_ | refine zqv ?_ | refine zqy ?_ | (refine J _ ?_; clear J K))
  obtain ⟨L, hL⟩ : ∃ L : List D, L = [.int .i64 4, z0a x.at_, .nil, .int .i64 0, .int .i64 0, .int .i64 0, .int .i64 0, .int .i64 0, .int .i64 0, .str ⟨#[]⟩, .nil, .nil, .nil, .nil, z3i x.new, .str ⟨#[]⟩, .str x.for_, .int .i64 x.sk, .int .i64 x.sd, .str x.se, .int .i64 0, .int .i64 0, .int .i64 0, .str ⟨#[]⟩, .nil] := ⟨_, rfl⟩
  have hl1 : L.length = 25 := by rw [hL]; rfl
  have hl2 : List.take 25 L = L := List.take_of_length_le (by omega)
  have hl3 : z11 zIt 0 L = L := z1n _ _ (by rw [hl1]; rfl)
  (refine z1c (fun st => st.t 2 = .ptr 1 0 /\ st.t 3 = .ptr 2 0 /\ st.H 1 = some (.box 34 zIt) /\ st.H 2 = some (.box 34 L) /\ st.nx = 3) ?_ ?_); rotate_left; (rintro st ⟨r2, r3, rH1, rH2, rnx⟩); rotate_left
  ·(simp (disch := omega) only [go_sem, Nat.reduceBEq, and_self, p2, p3, pH1, pH2, hL, z0a, z3i])
  repeat' (first | ((refine zqh fun K J => ?_); (simp (disch := omega) only [go_sem, Nat.reduceBEq, ↓reduceIte, Nat.reduceAdd, Nat.reduceLeDiff, r2, r3, rH1, rH2, rnx, hl1, hl2, hl3, hzl])) | refine zqn ?_ | refine zqu (by (simp (disch := omega) only [go_sem, Nat.reduceBEq, ↓reduceIte, Nat.reduceLeDiff, r2, rH1, hl1, hl2]); rfl) rfl ?_ | (refine J _ ?_; clear J K))
  refine z02 ?_ (z5i ?_)
  ·rw [hL]
   simp only [pureD, pureD.pureL, z0r, z2v, Bool.and_self]
  ·clear hl1 hl2 hl3 r2 r3 rH1 rH2 rnx p1 p2 p3 pH0 pH1 pH2 pnx
   cases x
   simp only [It.kind, It.at_, It.to, It.wh, It.nth, It.unit, It.old, It.new, It.label, It.for_, It.sk, It.sd, It.se, It.act, It.item, It.day, It.event, It.by_] at h hL ⊢
   subst h
   rw [z0g, hL]
   repeat' (first | exact trivial | exact Le.refl _ | exact Le.nil _ | refine And.intro ?_ ?_)
 ·skip
  repeat' (first | refine zqj ?_ | ((first | refine z01 (N := 5) rfl fun K J => ?_ | refine z1a (N := 5) rfl (by decide +kernel) fun K J => ?_); (simp (disch := omega) only [go_sem, Nat.reduceBEq, Nat.reduceEqDiff, ↓reduceIte, reduceCtorEq, Nat.reduceAdd, Nat.reduceLeDiff, Int.reduceLE, h, List.set_cons_succ, List.set_cons_zero])) | ((refine zqd _ rfl (fun hc => ?_) (fun hc => ?_)) <;> (first | (cases hc; done) | ((try simp only [] at hc); (try (exfalso; omega))))) | (refine J _ ?_; clear J K))
  (refine z1c (fun st => st.t 1 = .ptr 0 0 /\ st.t 2 = .ptr 1 0 /\ st.t 3 = .ptr 2 0 /\ st.H 0 = some (.box 34 (z0i x)) /\ st.H 1 = some (.box 34 zIt) /\ st.H 2 = some (.box 34 [.int .i64 5, z0a x.at_, .nil, .int .i64 0, .int .i64 0, .int .i64 0, .int .i64 0, .int .i64 0, .int .i64 0, .str ⟨#[]⟩, .nil, .nil, .nil, .nil, .nil, .str ⟨#[]⟩, .str x.for_, .int .i64 x.sk, .int .i64 x.sd, .str x.se, .int .i64 0, .int .i64 0, .int .i64 0, .str ⟨#[]⟩, .nil]) /\ st.nx = 3) ?_ ?_); rotate_left; (rintro st ⟨p1, p2, p3, pH0, pH1, pH2, pnx⟩); rotate_left
  ·(simp (disch := omega) only [go_sem, Nat.reduceBEq, true_and, and_true])
   first | exact ⟨rfl, rfl⟩ | exact rfl
  repeat' (first | refine zqj ?_ | ((first | refine z01 (N := 25) rfl fun K J => ?_ | refine zqr fun K J => ?_); (simp (disch := omega) only [go_sem, Nat.reduceBEq, ↓reduceIte, reduceCtorEq, Nat.reduceAdd, Nat.reduceLeDiff, Nat.reduceLT, Int.reduceEq, p1, p3, pH0, pH2, pnx, h, z0a, List.set_cons_succ, List.set_cons_zero])) | ((first | refine zqd _ rfl (fun hc => ?_) (fun hc => ?_) | refine zqm _ rfl (fun hc => ?_) (fun hc => ?_)) <;> (first | (cases hc; done) | ((try simp only [] at hc); (try (exfalso; omega))))) | refine zqa ?_ | refine zqv ?_ | refine zqy ?_ | (refine J _ ?_; clear J K))
  obtain ⟨L, hL⟩ : ∃ L : List D, L = [.int .i64 5, z0a x.at_, .nil, .int .i64 0, .int .i64 0, .int .i64 0, .int .i64 0, .int .i64 0, .int .i64 0, .str ⟨#[]⟩, .nil, .nil, .nil, .nil, .nil, .str x.label, .str x.for_, .int .i64 x.sk, .int .i64 x.sd, .str x.se, .int .i64 0, .int .i64 0, .int .i64 0, .str ⟨#[]⟩, .nil] := ⟨_, rfl⟩
  have hl1 : L.length = 25 := by rw [hL]; rfl
  have hl2 : List.take 25 L = L := List.take_of_length_le (by omega)
  have hl3 : z11 zIt 0 L = L := z1n _ _ (by rw [hl1]; rfl)
  (refine z1c (fun st => st.t 2 = .ptr 1 0 /\ st.t 3 = .ptr 2 0 /\ st.H 1 = some (.box 34 zIt) /\ st.H 2 = some (.box 34 L) /\ st.nx = 3) ?_ ?_); rotate_left; (rintro st ⟨r2, r3, rH1, rH2, rnx⟩); rotate_left
  ·(simp (disch := omega) only [go_sem, Nat.reduceBEq, and_self, p2, p3, pH1, pH2, hL, z0a])
  repeat' (first | ((refine zqh fun K J => ?_); (simp (disch := omega) only [go_sem, Nat.reduceBEq, ↓reduceIte, Nat.reduceAdd, Nat.reduceLeDiff, r2, r3, rH1, rH2, rnx, hl1, hl2, hl3, hzl])) | refine zqn ?_ | refine zqu (by (simp (disch := omega) only [go_sem, Nat.reduceBEq, ↓reduceIte, Nat.reduceLeDiff, r2, rH1, hl1, hl2]); rfl) rfl ?_ | (refine J _ ?_; clear J K))
  refine z02 ?_ (z5i ?_)
  ·rw [hL]
   simp only [pureD, pureD.pureL, z0r, Bool.and_self]
  ·clear hl1 hl2 hl3 r2 r3 rH1 rH2 rnx p1 p2 p3 pH0 pH1 pH2 pnx
   cases x
   simp only [It.kind, It.at_, It.to, It.wh, It.nth, It.unit, It.old, It.new, It.label, It.for_, It.sk, It.sd, It.se, It.act, It.item, It.day, It.event, It.by_] at h hL ⊢
   subst h
   rw [z0g, hL]
   repeat' (first | exact trivial | exact Le.refl _ | exact Le.nil _ | refine And.intro ?_ ?_)
 ·skip
  repeat' (first | refine zqj ?_ | ((first | refine z01 (N := 5) rfl fun K J => ?_ | refine z1a (N := 5) rfl (by decide +kernel) fun K J => ?_); (simp (disch := omega) only [go_sem, Nat.reduceBEq, Nat.reduceEqDiff, ↓reduceIte, reduceCtorEq, Nat.reduceAdd, Nat.reduceLeDiff, Int.reduceLE, h, List.set_cons_succ, List.set_cons_zero])) | ((refine zqd _ rfl (fun hc => ?_) (fun hc => ?_)) <;> (first | (cases hc; done) | ((try simp only [] at hc); (try (exfalso; omega))))) | (refine J _ ?_; clear J K))
  (refine z1c (fun st => st.t 1 = .ptr 0 0 /\ st.t 2 = .ptr 1 0 /\ st.t 3 = .ptr 2 0 /\ st.H 0 = some (.box 34 (z0i x)) /\ st.H 1 = some (.box 34 zIt) /\ st.H 2 = some (.box 34 [.int .i64 6, z0a x.at_, .nil, .int .i64 0, .int .i64 0, .int .i64 0, .int .i64 0, .int .i64 0, .int .i64 0, .str ⟨#[]⟩, .nil, .nil, .nil, .nil, .nil, .str ⟨#[]⟩, .str x.for_, .int .i64 x.sk, .int .i64 x.sd, .str x.se, .int .i64 0, .int .i64 0, .int .i64 0, .str ⟨#[]⟩, .nil]) /\ st.nx = 3) ?_ ?_); rotate_left; (rintro st ⟨p1, p2, p3, pH0, pH1, pH2, pnx⟩); rotate_left
  ·(simp (disch := omega) only [go_sem, Nat.reduceBEq, true_and, and_true])
   first | exact ⟨rfl, rfl⟩ | exact rfl
  repeat' (first | refine zqj ?_ | ((first | refine z01 (N := 25) rfl fun K J => ?_ | refine zqq (by decide +kernel) fun K J => ?_); (simp (disch := omega) only [go_sem, Nat.reduceBEq, Nat.reduceEqDiff, ↓reduceIte, reduceCtorEq, Nat.reduceAdd, Nat.reduceLeDiff, Nat.reduceLT, Int.reduceEq, p1, p3, pH0, pH2, pnx, h, z0a, List.set_cons_succ, List.set_cons_zero])) | ((first | refine zqd _ rfl (fun hc => ?_) (fun hc => ?_) | refine zqm _ rfl (fun hc => ?_) (fun hc => ?_)) <;> (first | (cases hc; done) | ((try simp only [] at hc); (try (exfalso; omega))))) | refine zqa ?_ | refine zqv ?_ | refine zqy ?_ | (refine J _ ?_; clear J K))
  obtain ⟨L, hL⟩ : ∃ L : List D, L = [.int .i64 6, z0a x.at_, z0a x.to, .int .i64 x.wh, .int .i64 0, .int .i64 0, .int .i64 0, .int .i64 0, .int .i64 0, .str ⟨#[]⟩, .nil, .nil, .nil, .nil, .nil, .str ⟨#[]⟩, .str x.for_, .int .i64 x.sk, .int .i64 x.sd, .str x.se, .int .i64 0, .int .i64 0, .int .i64 0, .str ⟨#[]⟩, .nil] := ⟨_, rfl⟩
  have hl1 : L.length = 25 := by rw [hL]; rfl
  have hl2 : List.take 25 L = L := List.take_of_length_le (by omega)
  have hl3 : z11 zIt 0 L = L := z1n _ _ (by rw [hl1]; rfl)
  (refine z1c (fun st => st.t 2 = .ptr 1 0 /\ st.t 3 = .ptr 2 0 /\ st.H 1 = some (.box 34 zIt) /\ st.H 2 = some (.box 34 L) /\ st.nx = 3) ?_ ?_); rotate_left; (rintro st ⟨r2, r3, rH1, rH2, rnx⟩); rotate_left
  ·(simp (disch := omega) only [go_sem, Nat.reduceBEq, and_self, p2, p3, pH1, pH2, hL, z0a])
  repeat' (first | ((refine zqh fun K J => ?_); (simp (disch := omega) only [go_sem, Nat.reduceBEq, ↓reduceIte, Nat.reduceAdd, Nat.reduceLeDiff, r2, r3, rH1, rH2, rnx, hl1, hl2, hl3, hzl])) | refine zqn ?_ | refine zqu (by (simp (disch := omega) only [go_sem, Nat.reduceBEq, ↓reduceIte, Nat.reduceLeDiff, r2, rH1, hl1, hl2]); rfl) rfl ?_ | (refine J _ ?_; clear J K))
  refine z02 ?_ (z5i ?_)
  ·rw [hL]
   simp only [pureD, pureD.pureL, z0r, Bool.and_self]
  ·clear hl1 hl2 hl3 r2 r3 rH1 rH2 rnx p1 p2 p3 pH0 pH1 pH2 pnx
   cases x
   simp only [It.kind, It.at_, It.to, It.wh, It.nth, It.unit, It.old, It.new, It.label, It.for_, It.sk, It.sd, It.se, It.act, It.item, It.day, It.event, It.by_] at h hL ⊢
   subst h
   rw [z0g, hL]
   repeat' (first | exact trivial | exact Le.refl _ | exact Le.nil _ | refine And.intro ?_ ?_)
 ·skip
  repeat' (first | refine zqj ?_ | ((refine z01 (N := 5) rfl fun K J => ?_); (simp (disch := omega) only [go_sem, Nat.reduceBEq, ↓reduceIte, reduceCtorEq, Nat.reduceAdd, Nat.reduceLeDiff, Nat.reduceLT, Int.reduceLE, h, List.set_cons_succ, List.set_cons_zero])) | ((refine zqd _ rfl (fun hc => ?_) (fun hc => ?_)) <;> (first | (cases hc; done) | ((try simp only [] at hc); (try (exfalso; omega))))) | (refine J _ ?_; clear J K))
  (refine z1c (fun st => st.t 1 = .ptr 0 0 /\ st.t 2 = .ptr 1 0 /\ st.t 3 = .ptr 2 0 /\ st.H 0 = some (.box 34 (z0i x)) /\ st.H 1 = some (.box 34 zIt) /\ st.H 2 = some (.box 34 [.int .i64 7, .nil, .nil, .int .i64 0, .int .i64 0, .int .i64 0, .int .i64 0, .int .i64 0, .int .i64 0, .str ⟨#[]⟩, .nil, .nil, .nil, .nil, .nil, .str ⟨#[]⟩, .str ⟨#[]⟩, .int .i64 0, .int .i64 0, .str ⟨#[]⟩, .int .i64 0, .int .i64 0, .int .i64 x.day, .str ⟨#[]⟩, .nil]) /\ st.nx = 3) ?_ ?_); rotate_left; (rintro st ⟨p1, p2, p3, pH0, pH1, pH2, pnx⟩); rotate_left
  ·(simp (disch := omega) only [go_sem, Nat.reduceBEq, true_and, and_true, and_self])
   first | exact ⟨rfl, rfl⟩ | exact rfl
  repeat' (first | refine zqj ?_ | ((first | refine z01 (N := 25) rfl fun K J => ?_ | refine zqq (by decide +kernel) fun K J => ?_); (simp (disch := omega) only [go_sem, Nat.reduceBEq, Nat.reduceEqDiff, ↓reduceIte, reduceCtorEq, Nat.reduceAdd, Nat.reduceLeDiff, Nat.reduceLT, Int.reduceEq, p1, p3, pH0, pH2, pnx, h, List.set_cons_succ, List.set_cons_zero])) | ((first | refine zqd _ rfl (fun hc => ?_) (fun hc => ?_) | refine zqm _ rfl (fun hc => ?_) (fun hc => ?_)) <;> (first | (cases hc; done) | ((try simp only [] at hc); (try (exfalso; omega))))) | refine zqa ?_ | refine zqb ?_ | refine zqv ?_ | refine zqy ?_ | (refine J _ ?_; clear J K))
  obtain ⟨L, hL⟩ : ∃ L : List D, L = [.int .i64 7, .nil, .nil, .int .i64 0, .int .i64 0, .int .i64 0, .int .i64 0, .int .i64 0, .int .i64 0, .str ⟨#[]⟩, .nil, .nil, .nil, .nil, .nil, .str ⟨#[]⟩, .str ⟨#[]⟩, .int .i64 0, .int .i64 0, .str ⟨#[]⟩, .int .i64 x.act, .int .i64 x.item, .int .i64 x.day, .str ⟨#[]⟩, .nil] := ⟨_, rfl⟩
  have hl1 : L.length = 25 := by rw [hL]; rfl
  have hl2 : List.take 25 L = L := List.take_of_length_le (by omega)
  have hl3 : z11 zIt 0 L = L := z1n _ _ (by rw [hl1]; rfl)
  (refine z1c (fun st => st.t 2 = .ptr 1 0 /\ st.t 3 = .ptr 2 0 /\ st.H 1 = some (.box 34 zIt) /\ st.H 2 = some (.box 34 L) /\ st.nx = 3) ?_ ?_); rotate_left; (rintro st ⟨r2, r3, rH1, rH2, rnx⟩); rotate_left
  ·(simp (disch := omega) only [go_sem, Nat.reduceBEq, and_self, p2, p3, pH1, pH2, hL])
  repeat' (first | ((refine zqh fun K J => ?_); (simp (disch := omega) only [go_sem, Nat.reduceBEq, ↓reduceIte, Nat.reduceAdd, Nat.reduceLeDiff, r2, r3, rH1, rH2, rnx, hl1, hl2, hl3, hzl])) | refine zqn ?_ | refine zqu (by (simp (disch := omega) only [go_sem, Nat.reduceBEq, ↓reduceIte, Nat.reduceLeDiff, r2, rH1, hl1, hl2]); rfl) rfl ?_ | (refine J _ ?_; clear J K))
  refine z02 ?_ (z5i ?_)
  ·rw [hL]
   simp only [pureD, pureD.pureL, Bool.and_self]
  ·clear hl1 hl2 hl3 r2 r3 rH1 rH2 rnx p1 p2 p3 pH0 pH1 pH2 pnx
   cases x
   simp only [It.kind, It.at_, It.to, It.wh, It.nth, It.unit, It.old, It.new, It.label, It.for_, It.sk, It.sd, It.se, It.act, It.item, It.day, It.event, It.by_] at h hL ⊢
   subst h
   rw [z0g, hL]
   repeat' (first | exact trivial | exact Le.refl _ | exact Le.nil _ | refine And.intro ?_ ?_)
 ·skip
  repeat' (first | refine zqj ?_ | ((refine z01 (N := 5) rfl fun K J => ?_); (simp (disch := omega) only [go_sem, Nat.reduceBEq, ↓reduceIte, reduceCtorEq, Nat.reduceAdd, Nat.reduceLeDiff, Nat.reduceLT, Int.reduceLE, h, List.set_cons_succ, List.set_cons_zero])) | ((refine zqd _ rfl (fun hc => ?_) (fun hc => ?_)) <;> (first | (cases hc; done) | ((try simp only [] at hc); (try (exfalso; omega))))) | (refine J _ ?_; clear J K))
  (refine z1c (fun st => st.t 1 = .ptr 0 0 /\ st.t 2 = .ptr 1 0 /\ st.t 3 = .ptr 2 0 /\ st.H 0 = some (.box 34 (z0i x)) /\ st.H 1 = some (.box 34 zIt) /\ st.H 2 = some (.box 34 [.int .i64 8, .nil, .nil, .int .i64 0, .int .i64 0, .int .i64 0, .int .i64 0, .int .i64 0, .int .i64 0, .str ⟨#[]⟩, .nil, .nil, .nil, .nil, .nil, .str ⟨#[]⟩, .str ⟨#[]⟩, .int .i64 0, .int .i64 0, .str ⟨#[]⟩, .int .i64 0, .int .i64 0, .int .i64 x.day, .str ⟨#[]⟩, .nil]) /\ st.nx = 3) ?_ ?_); rotate_left; (rintro st ⟨p1, p2, p3, pH0, pH1, pH2, pnx⟩); rotate_left
  ·(simp (disch := omega) only [go_sem, Nat.reduceBEq, true_and, and_true, and_self])
   first | exact ⟨rfl, rfl⟩ | exact rfl
  repeat' (first | refine zqj ?_ | ((first | refine z01 (N := 25) rfl fun K J => ?_ | refine zqq (by decide +kernel) fun K J => ?_); (simp (disch := omega) only [go_sem, Nat.reduceBEq, Nat.reduceEqDiff, ↓reduceIte, reduceCtorEq, Nat.reduceAdd, Nat.reduceLeDiff, Nat.reduceLT, Int.reduceEq, p1, p3, pH0, pH2, pnx, h, List.set_cons_succ, List.set_cons_zero])) | ((first | refine zqd _ rfl (fun hc => ?_) (fun hc => ?_) | refine zqm _ rfl (fun hc => ?_) (fun hc => ?_)) <;> (first | (cases hc; done) | ((try simp only [] at hc); (try (exfalso; omega))))) | refine zqa ?_ | refine zqb ?_ | refine zqv ?_ | refine zqy ?_ | (refine J _ ?_; clear J K))
  obtain ⟨L, hL⟩ : ∃ L : List D, L = [.int .i64 8, .nil, .nil, .int .i64 0, .int .i64 0, .int .i64 0, .int .i64 0, .int .i64 0, .int .i64 0, .str ⟨#[]⟩, .nil, .nil, .nil, .nil, .nil, .str ⟨#[]⟩, .str ⟨#[]⟩, .int .i64 0, .int .i64 0, .str ⟨#[]⟩, .int .i64 x.act, .int .i64 x.item, .int .i64 x.day, .str ⟨#[]⟩, .nil] := ⟨_, rfl⟩
  have hl1 : L.length = 25 := by rw [hL]; rfl
  have hl2 : List.take 25 L = L := List.take_of_length_le (by omega)
  have hl3 : z11 zIt 0 L = L := z1n _ _ (by rw [hl1]; rfl)
  (refine z1c (fun st => st.t 2 = .ptr 1 0 /\ st.t 3 = .ptr 2 0 /\ st.H 1 = some (.box 34 zIt) /\ st.H 2 = some (.box 34 L) /\ st.nx = 3) ?_ ?_); rotate_left; (rintro st ⟨r2, r3, rH1, rH2, rnx⟩); rotate_left
  ·(simp (disch := omega) only [go_sem, Nat.reduceBEq, and_self, p2, p3, pH1, pH2, hL])
  repeat' (first | ((refine zqh fun K J => ?_); (simp (disch := omega) only [go_sem, Nat.reduceBEq, ↓reduceIte, Nat.reduceAdd, Nat.reduceLeDiff, r2, r3, rH1, rH2, rnx, hl1, hl2, hl3, hzl])) | refine zqn ?_ | refine zqu (by (simp (disch := omega) only [go_sem, Nat.reduceBEq, ↓reduceIte, Nat.reduceLeDiff, r2, rH1, hl1, hl2]); rfl) rfl ?_ | (refine J _ ?_; clear J K))
  refine z02 ?_ (z5i ?_)
  ·rw [hL]
   simp only [pureD, pureD.pureL, Bool.and_self]
  ·clear hl1 hl2 hl3 r2 r3 rH1 rH2 rnx p1 p2 p3 pH0 pH1 pH2 pnx
   cases x
   simp only [It.kind, It.at_, It.to, It.wh, It.nth, It.unit, It.old, It.new, It.label, It.for_, It.sk, It.sd, It.se, It.act, It.item, It.day, It.event, It.by_] at h hL ⊢
   subst h
   rw [z0g, hL]
   repeat' (first | exact trivial | exact Le.refl _ | exact Le.nil _ | refine And.intro ?_ ?_)
 ·skip
  repeat' (first | refine zqj ?_ | ((refine z01 (N := 5) rfl fun K J => ?_); (simp (disch := omega) only [go_sem, Nat.reduceBEq, ↓reduceIte, reduceCtorEq, Nat.reduceAdd, Nat.reduceLeDiff, Nat.reduceLT, Int.reduceLE, h, List.set_cons_succ, List.set_cons_zero])) | ((refine zqd _ rfl (fun hc => ?_) (fun hc => ?_)) <;> (first | (cases hc; done) | ((try simp only [] at hc); (try (exfalso; omega))))) | (refine J _ ?_; clear J K))
  (refine z1c (fun st => st.t 1 = .ptr 0 0 /\ st.t 2 = .ptr 1 0 /\ st.t 3 = .ptr 2 0 /\ st.H 0 = some (.box 34 (z0i x)) /\ st.H 1 = some (.box 34 zIt) /\ st.H 2 = some (.box 34 [.int .i64 9, .nil, .nil, .int .i64 0, .int .i64 0, .int .i64 0, .int .i64 0, .int .i64 0, .int .i64 0, .str ⟨#[]⟩, .nil, .nil, .nil, .nil, .nil, .str ⟨#[]⟩, .str ⟨#[]⟩, .int .i64 0, .int .i64 0, .str ⟨#[]⟩, .int .i64 0, .int .i64 0, .int .i64 x.day, .str ⟨#[]⟩, .nil]) /\ st.nx = 3) ?_ ?_); rotate_left; (rintro st ⟨p1, p2, p3, pH0, pH1, pH2, pnx⟩); rotate_left
  ·(simp (disch := omega) only [go_sem, Nat.reduceBEq, true_and, and_true, and_self])
   first | exact ⟨rfl, rfl⟩ | exact rfl
  repeat' (first | refine zqj ?_ | ((first | refine z01 (N := 25) rfl fun K J => ?_ | refine zqq (by decide +kernel) fun K J => ?_); (simp (disch := omega) only [go_sem, Nat.reduceBEq, Nat.reduceEqDiff, ↓reduceIte, reduceCtorEq, Nat.reduceAdd, Nat.reduceLeDiff, Nat.reduceLT, Int.reduceEq, p1, p3, pH0, pH2, pnx, h, List.set_cons_succ, List.set_cons_zero])) | ((first | refine zqd _ rfl (fun hc => ?_) (fun hc => ?_) | refine zqm _ rfl (fun hc => ?_) (fun hc => ?_)) <;> (first | (cases hc; done) | ((try simp only [] at hc); (try (exfalso; omega))))) | refine zqa ?_ | refine zqv ?_ | refine zqy ?_ | (refine J _ ?_; clear J K))
  obtain ⟨L, hL⟩ : ∃ L : List D, L = [.int .i64 9, .nil, .nil, .int .i64 0, .int .i64 0, .int .i64 0, .int .i64 0, .int .i64 0, .int .i64 0, .str ⟨#[]⟩, .nil, .nil, .nil, .nil, .nil, .str ⟨#[]⟩, .str ⟨#[]⟩, .int .i64 0, .int .i64 0, .str ⟨#[]⟩, .int .i64 x.act, .int .i64 x.item, .int .i64 x.day, .str ⟨#[]⟩, .nil] := ⟨_, rfl⟩
  have hl1 : L.length = 25 := by rw [hL]; rfl
  have hl2 : List.take 25 L = L := List.take_of_length_le (by omega)
  have hl3 : z11 zIt 0 L = L := z1n _ _ (by rw [hl1]; rfl)
  (refine z1c (fun st => st.t 2 = .ptr 1 0 /\ st.t 3 = .ptr 2 0 /\ st.H 1 = some (.box 34 zIt) /\ st.H 2 = some (.box 34 L) /\ st.nx = 3) ?_ ?_); rotate_left; (rintro st ⟨r2, r3, rH1, rH2, rnx⟩); rotate_left
  ·(simp (disch := omega) only [go_sem, Nat.reduceBEq, and_self, p2, p3, pH1, pH2, hL])
  repeat' (first | ((refine zqh fun K J => ?_); (simp (disch := omega) only [go_sem, Nat.reduceBEq, ↓reduceIte, Nat.reduceAdd, Nat.reduceLeDiff, r2, r3, rH1, rH2, rnx, hl1, hl2, hl3, hzl])) | refine zqn ?_ | refine zqu (by (simp (disch := omega) only [go_sem, Nat.reduceBEq, ↓reduceIte, Nat.reduceLeDiff, r2, rH1, hl1, hl2]); rfl) rfl ?_ | (refine J _ ?_; clear J K))
  refine z02 ?_ (z5i ?_)
  ·rw [hL]
   simp only [pureD, pureD.pureL, Bool.and_self]
  ·clear hl1 hl2 hl3 r2 r3 rH1 rH2 rnx p1 p2 p3 pH0 pH1 pH2 pnx
   cases x
   simp only [It.kind, It.at_, It.to, It.wh, It.nth, It.unit, It.old, It.new, It.label, It.for_, It.sk, It.sd, It.se, It.act, It.item, It.day, It.event, It.by_] at h hL ⊢
   subst h
   rw [z0g, hL]
   repeat' (first | exact trivial | exact Le.refl _ | exact Le.nil _ | refine And.intro ?_ ?_)
 ·skip
  repeat' (first | refine zqj ?_ | ((refine z01 (N := 5) rfl fun K J => ?_); (simp (disch := omega) only [go_sem, Nat.reduceBEq, ↓reduceIte, reduceCtorEq, Nat.reduceAdd, Nat.reduceLeDiff, Nat.reduceLT, Int.reduceLE, h, List.set_cons_succ, List.set_cons_zero])) | ((refine zqd _ rfl (fun hc => ?_) (fun hc => ?_)) <;> (first | (cases hc; done) | ((try simp only [] at hc); (try (exfalso; omega))))) | (refine J _ ?_; clear J K))
  (refine z1c (fun st => st.t 1 = .ptr 0 0 /\ st.t 2 = .ptr 1 0 /\ st.t 3 = .ptr 2 0 /\ st.H 0 = some (.box 34 (z0i x)) /\ st.H 1 = some (.box 34 zIt) /\ st.H 2 = some (.box 34 [.int .i64 10, .nil, .nil, .int .i64 0, .int .i64 0, .int .i64 0, .int .i64 0, .int .i64 0, .int .i64 0, .str ⟨#[]⟩, .nil, .nil, .nil, .nil, .nil, .str ⟨#[]⟩, .str ⟨#[]⟩, .int .i64 0, .int .i64 0, .str ⟨#[]⟩, .int .i64 0, .int .i64 0, .int .i64 x.day, .str ⟨#[]⟩, .nil]) /\ st.nx = 3) ?_ ?_); rotate_left; (rintro st ⟨p1, p2, p3, pH0, pH1, pH2, pnx⟩); rotate_left
  ·(simp (disch := omega) only [go_sem, Nat.reduceBEq, true_and, and_true, and_self])
   first | exact ⟨rfl, rfl⟩ | exact rfl
  repeat' (first | refine zqj ?_ | ((first | refine z01 (N := 25) rfl fun K J => ?_ | refine zqr fun K J => ?_); (simp (disch := omega) only [go_sem, Nat.reduceBEq, ↓reduceIte, reduceCtorEq, Nat.reduceAdd, Nat.reduceLeDiff, Nat.reduceLT, Int.reduceEq, p1, p3, pH0, pH2, pnx, h, List.set_cons_succ, List.set_cons_zero])) | ((first | refine zqd _ rfl (fun hc => ?_) (fun hc => ?_) | refine zqm _ rfl (fun hc => ?_) (fun hc => ?_)) <;> (first | (cases hc; done) | ((try simp only [] at hc); (try (exfalso; omega))))) | refine zqa ?_ | refine zqv ?_ | refine zqy ?_ | (refine J _ ?_; clear J K))
  obtain ⟨L, hL⟩ : ∃ L : List D, L = [.int .i64 10, .nil, .nil, .int .i64 0, .int .i64 0, .int .i64 0, .int .i64 0, .int .i64 0, .int .i64 0, .str ⟨#[]⟩, .nil, .nil, .nil, .nil, .nil, .str ⟨#[]⟩, .str ⟨#[]⟩, .int .i64 0, .int .i64 0, .str ⟨#[]⟩, .int .i64 0, .int .i64 0, .int .i64 x.day, .str x.event, .nil] := ⟨_, rfl⟩
  have hl1 : L.length = 25 := by rw [hL]; rfl
  have hl2 : List.take 25 L = L := List.take_of_length_le (by omega)
  have hl3 : z11 zIt 0 L = L := z1n _ _ (by rw [hl1]; rfl)
  (refine z1c (fun st => st.t 2 = .ptr 1 0 /\ st.t 3 = .ptr 2 0 /\ st.H 1 = some (.box 34 zIt) /\ st.H 2 = some (.box 34 L) /\ st.nx = 3) ?_ ?_); rotate_left; (rintro st ⟨r2, r3, rH1, rH2, rnx⟩); rotate_left
  ·(simp (disch := omega) only [go_sem, Nat.reduceBEq, and_self, p2, p3, pH1, pH2, hL])
  repeat' (first | ((refine zqh fun K J => ?_); (simp (disch := omega) only [go_sem, Nat.reduceBEq, ↓reduceIte, Nat.reduceAdd, Nat.reduceLeDiff, r2, r3, rH1, rH2, rnx, hl1, hl2, hl3, hzl])) | refine zqn ?_ | refine zqu (by (simp (disch := omega) only [go_sem, Nat.reduceBEq, ↓reduceIte, Nat.reduceLeDiff, r2, rH1, hl1, hl2]); rfl) rfl ?_ | (refine J _ ?_; clear J K))
  refine z02 ?_ (z5i ?_)
  ·rw [hL]
   simp only [pureD, pureD.pureL, Bool.and_self]
  ·clear hl1 hl2 hl3 r2 r3 rH1 rH2 rnx p1 p2 p3 pH0 pH1 pH2 pnx
   cases x
   simp only [It.kind, It.at_, It.to, It.wh, It.nth, It.unit, It.old, It.new, It.label, It.for_, It.sk, It.sd, It.se, It.act, It.item, It.day, It.event, It.by_] at h hL ⊢
   subst h
   rw [z0g, hL]
   repeat' (first | exact trivial | exact Le.refl _ | exact Le.nil _ | refine And.intro ?_ ?_)
 ·skip
  repeat' (first | refine zqj ?_ | ((refine z01 (N := 5) rfl fun K J => ?_); (simp (disch := omega) only [go_sem, Nat.reduceBEq, ↓reduceIte, reduceCtorEq, Nat.reduceAdd, Nat.reduceLeDiff, Nat.reduceLT, Int.reduceLE, h, List.set_cons_succ, List.set_cons_zero])) | ((refine zqd _ rfl (fun hc => ?_) (fun hc => ?_)) <;> (first | (cases hc; done) | ((try simp only [] at hc); (try (exfalso; omega))))) | (refine J _ ?_; clear J K))
  (refine z1c (fun st => st.t 1 = .ptr 0 0 /\ st.t 2 = .ptr 1 0 /\ st.t 3 = .ptr 2 0 /\ st.H 0 = some (.box 34 (z0i x)) /\ st.H 1 = some (.box 34 zIt) /\ st.H 2 = some (.box 34 [.int .i64 11, .nil, .nil, .int .i64 0, .int .i64 0, .int .i64 0, .int .i64 0, .int .i64 0, .int .i64 0, .str ⟨#[]⟩, .nil, .nil, .nil, .nil, .nil, .str ⟨#[]⟩, .str ⟨#[]⟩, .int .i64 0, .int .i64 0, .str ⟨#[]⟩, .int .i64 0, .int .i64 0, .int .i64 x.day, .str ⟨#[]⟩, .nil]) /\ st.nx = 3) ?_ ?_); rotate_left; (rintro st ⟨p1, p2, p3, pH0, pH1, pH2, pnx⟩); rotate_left
  ·(simp (disch := omega) only [go_sem, Nat.reduceBEq, true_and, and_true, and_self])
   first | exact ⟨rfl, rfl⟩ | exact rfl
  repeat' (first | refine zqj ?_ | ((first | refine z01 (N := 25) rfl fun K J => ?_ | refine zqq (by decide +kernel) fun K J => ?_); (simp (disch := omega) only [go_sem, Nat.reduceBEq, Nat.reduceEqDiff, ↓reduceIte, reduceCtorEq, Nat.reduceAdd, Nat.reduceLeDiff, Nat.reduceLT, Int.reduceEq, p1, p3, pH0, pH2, pnx, h, z3l, List.set_cons_succ, List.set_cons_zero])) | ((first | refine zqd _ rfl (fun hc => ?_) (fun hc => ?_) | refine zqm _ rfl (fun hc => ?_) (fun hc => ?_)) <;> (first | (cases hc; done) | ((try simp only [] at hc); (try (exfalso; omega))))) | refine zqa ?_ | refine zqv ?_ | refine zqy ?_ | (refine J _ ?_; clear J K))
  obtain ⟨L, hL⟩ : ∃ L : List D, L = [.int .i64 11, .nil, .nil, .int .i64 0, .int .i64 0, .int .i64 0, .int .i64 0, .int .i64 0, .int .i64 0, .str ⟨#[]⟩, .nil, .nil, .nil, .nil, .nil, .str ⟨#[]⟩, .str ⟨#[]⟩, .int .i64 0, .int .i64 0, .str ⟨#[]⟩, .int .i64 x.act, .int .i64 x.item, .int .i64 0, .str ⟨#[]⟩, z3l x.by_] := ⟨_, rfl⟩
  have hl1 : L.length = 25 := by rw [hL]; rfl
  have hl2 : List.take 25 L = L := List.take_of_length_le (by omega)
  have hl3 : z11 zIt 0 L = L := z1n _ _ (by rw [hl1]; rfl)
  (refine z1c (fun st => st.t 2 = .ptr 1 0 /\ st.t 3 = .ptr 2 0 /\ st.H 1 = some (.box 34 zIt) /\ st.H 2 = some (.box 34 L) /\ st.nx = 3) ?_ ?_); rotate_left; (rintro st ⟨r2, r3, rH1, rH2, rnx⟩); rotate_left
  ·(simp (disch := omega) only [go_sem, Nat.reduceBEq, and_self, p2, p3, pH1, pH2, hL, z3l])
  repeat' (first | ((refine zqh fun K J => ?_); (simp (disch := omega) only [go_sem, Nat.reduceBEq, ↓reduceIte, Nat.reduceAdd, Nat.reduceLeDiff, r2, r3, rH1, rH2, rnx, hl1, hl2, hl3, hzl])) | refine zqn ?_ | refine zqu (by (simp (disch := omega) only [go_sem, Nat.reduceBEq, ↓reduceIte, Nat.reduceLeDiff, r2, rH1, hl1, hl2]); rfl) rfl ?_ | (refine J _ ?_; clear J K))
  refine z02 ?_ (z5i ?_)
  ·rw [hL]
   simp only [pureD, pureD.pureL, zm0, Bool.and_self]
  ·clear hl1 hl2 hl3 r2 r3 rH1 rH2 rnx p1 p2 p3 pH0 pH1 pH2 pnx
   cases x
   simp only [It.kind, It.at_, It.to, It.wh, It.nth, It.unit, It.old, It.new, It.label, It.for_, It.sk, It.sd, It.se, It.act, It.item, It.day, It.event, It.by_] at h hL ⊢
   subst h
   rw [z0g, hL]
   repeat' (first | exact trivial | exact Le.refl _ | exact Le.nil _ | refine And.intro ?_ ?_)
end
section
open Abs Facts Tr
attribute [local irreducible] awp
set_option maxRecDepth 100000
set_option maxHeartbeats 16000000 in
theorem zmh : ∀ x : It, OkI x -> PC Tryz.prog 7 [zc5 x] (.bool (zc8 x)) := by
  refine zlt fun x ih hx => ?_
  obtain ⟨b, hk⟩ := (z87 x).1 hx
  obtain ⟨⟨a1, a1'⟩, ⟨a2, a2'⟩, ⟨a3, a3'⟩, ⟨a4, a4'⟩, a5, ⟨u1, u2, u3⟩, s1, s2, s3, s4⟩ := b
  have m1 : 1000 <= maxLen := by unfold maxLen; omega
  have c1 := z7t x.kind 0 11
  have hmay := zm3 x
  unfold mayF at hmay
  refine z1y 1 (by simp only [pureD.pureL, z48, Bool.and_self]) rfl (z1w [] Tryz.func7 rfl (by decide +kernel) z0j (by decide +kernel) (by simp [Tryz.ntmps7]) ?_)
  show awp _ _ (Code.seq _ _) _ _
  by_cases h0 : 0 <= x.kind /\ x.kind <= 11
  case neg =>
    have hin : inB x.kind 0 11 = false := decide_eq_false h0
    rw [hin] at c1 hmay
    rw [Bool.false_and, Bool.false_and] at hmay
    rw [hmay]
    repeat' (first | refine zqj ?_ | ((first | refine z01 (N := 3) rfl fun K J => ?_ | refine z1a (N := 3) rfl (by decide +kernel) fun K J => ?_ | refine zqt (c1) ?_); (simp (disch := omega) only [go_sem, Nat.reduceBEq, ↓reduceIte, reduceCtorEq, Nat.reduceAdd])) | ((refine zqd _ rfl (fun hc => ?_) (fun hc => ?_)) <;> (first | (cases hc; done) | ((try simp only [] at hc); (try (exfalso; omega))))) | refine zqg ?_ | refine zqu (by (simp (disch := omega) only [go_sem]); rfl) rfl ?_ | (refine J _ ?_; clear J K))
    exact z00 rfl
  have hin : inB x.kind 0 11 = true := decide_eq_true h0
  rw [hin, Bool.true_and] at hmay
  rw [hin] at c1
  have hf := ok_fit x hx
  have c2 := zzd x h0
  have c3 := zwy x hf (zhz x) (zux x hf)
  by_cases ht : x = zhz x
  case neg =>
    rw [decide_eq_false ht, Bool.false_and] at hmay
    rw [decide_eq_false ht] at c3
    rw [hmay]
    repeat' (first | refine zqj ?_ | ((first | refine z01 (N := 3) rfl fun K J => ?_ | refine z1a (N := 3) rfl (by decide +kernel) fun K J => ?_ | refine zqt (c1) ?_ | refine zqt (c2) ?_ | refine zqt (c3) ?_); (simp (disch := omega) only [go_sem, Nat.reduceBEq, ↓reduceIte, reduceCtorEq, Nat.reduceAdd, Nat.reduceLeDiff])) | ((refine zqd _ rfl (fun hc => ?_) (fun hc => ?_)) <;> (first | (cases hc; done) | ((try simp only [] at hc); (try (exfalso; omega))))) | refine zqg ?_ | refine zqu (by (simp (disch := omega) only [go_sem]); rfl) rfl ?_ | (refine J _ ?_; clear J K))
    exact z00 rfl
  rw [decide_eq_true ht, Bool.true_and] at hmay
  rw [decide_eq_true ht] at c3
  have c4 := zkq x.at_ (by omega) fun s hs => by have := a1' s hs; omega
  have c5 := zew x.for_ (by omega)
  have c6 := zwg x.sk x.sd x.se (by omega)
  repeat' (first | refine zqj ?_ | ((first | refine z01 (N := 3) rfl fun K J => ?_ | refine z1a (N := 3) rfl (by decide +kernel) fun K J => ?_ | refine zqt (c1) ?_ | refine zqt (c2) ?_ | refine zqt (c3) ?_); (simp (disch := omega) only [go_sem, Nat.reduceBEq, ↓reduceIte, reduceCtorEq, Nat.reduceAdd, Nat.reduceLeDiff])) | ((refine zqd _ rfl (fun hc => ?_) (fun hc => ?_)) <;> (first | (cases hc; done) | ((try simp only [] at hc); (try (exfalso; omega))))) | refine zqb ?_ | (refine J _ ?_; clear J K))
  obtain ⟨b, hb⟩ : ∃ b, b = zc8 x := ⟨_, rfl⟩
  rw [<- hb] at hmay ⊢
  clear ht c2 c3
  (refine z3n (fun st => st.t 1 = .ptr 0 0 /\ st.H 0 = some (.box 34 (z0i x)) /\ (b = z4p x (x.by_.map zc8))) ?_ ?_); rotate_left; (rintro st ⟨p1, pH0, pp0⟩); rotate_left
  · by_cases h6 : x.kind <= 6
    · rw [decide_eq_false (by omega), Bool.false_or] at hmay
      repeat' (first | ((first | refine zqh fun K J => ?_ | refine zqs (c4) ?_ | refine zqs (c5) ?_ | refine zqs (c6) ?_); (simp (disch := omega) only [go_sem, Nat.reduceBEq, ↓reduceIte, reduceCtorEq, Nat.reduceAdd, h6, z0a])) | ((refine zqm _ rfl (fun hc => ?_) (fun hc => ?_)) <;> (first | (cases hc; done) | ((try simp only [z03] at hc); (try (exfalso; omega))))) | refine zqk ?_ | refine zqn ?_ | refine zqx ?_ | refine zqu (by (simp (disch := omega) only [go_sem]); rfl) rfl ?_ | (refine J _ ?_; clear J K) | (refine zqf (fun hb => ?_) (fun hb => ?_) <;> (have hb2 := hb; try simp only [z03] at hb2) <;> ((first | have F : (_ : Bool) = _ := hb2 | have F := eq_false hb2 | have F := eq_true hb2); (simp (disch := omega) only [go_sem, Nat.reduceBEq, ↓reduceIte, reduceCtorEq, Nat.reduceAdd, Nat.reduceLeDiff, F]); clear hb F; (try (exfalso; omega)))))
      all_goals first
        | (clear hb; refine z00 ?_; rw [hmay]; simp [*, z1j]; done)
        | ((refine z46 ?_); (simp (disch := omega) only [go_sem, Nat.reduceBEq, true_and])
           clear hb; rw [hmay]; simp [*, z1j]; done)
       
    · rw [decide_eq_true (by omega), Bool.true_or, Bool.true_and] at hmay
      repeat' (first | ((refine zqh fun K J => ?_); (simp (disch := omega) only [go_sem, Nat.reduceBEq, ↓reduceIte, reduceCtorEq, Nat.reduceAdd])) | ((refine zqm _ rfl (fun hc => ?_) (fun hc => ?_)) <;> (first | (cases hc; done) | ((try simp only [] at hc); (try (exfalso; omega))))) | refine zqk ?_ | (refine J _ ?_; clear J K) | (refine zqf (fun hb => ?_) (fun hb => ?_) <;> (have hb2 := hb; try simp only [z03] at hb2) <;> ((first | have F := eq_false hb2 | have F := eq_true hb2); (simp (disch := omega) only [go_sem, Nat.reduceBEq, ↓reduceIte, reduceCtorEq, Nat.reduceAdd, F]); clear hb F; (try (exfalso; omega)))))
      (refine z46 ?_); (simp (disch := omega) only [go_sem, Nat.reduceBEq, true_and])
      exact hmay
  subst pp0
  clear hmay c1 c4 c5 c6
  rcases (show x.kind = 0 \/ x.kind = 1 \/ x.kind = 2 \/ x.kind = 3 \/ x.kind = 4 \/ x.kind = 5 \/ x.kind = 6 \/ x.kind = 7 \/ x.kind = 8 \/ x.kind = 9 \/ x.kind = 10 \/ x.kind = 11 by omega) with h | h | h | h | h | h | h | h | h | h | h | h
  · have e : z4p x (x.by_.map zc8) = (inB x.wh 0 3 && (z71 x.unit && decide (x.unit = z6p x.unit) && (!decide (x.unit.kind = 0) && decide ((zu9 x.unit).2 = 0)))) := by
      unfold z4p
      rw [if_pos (c := x.kind = 0) (by omega)]
    rw [e]
    have d0 := zsh x.unit u1 (by omega) (by omega)
    have d1 := z7t x.wh 0 3
    have d2 := pc_Bare x.unit u1 (by omega) (by omega)
    have huk : (z0i x)[8]? = some (.int .i64 x.unit.kind) := by rw [z0g]; rfl
    generalize (z71 x.unit && decide (x.unit = z6p x.unit)) = B at d2 ⊢
    clear e
    repeat' (first | refine zqj ?_ | ((first | refine zqh fun K J => ?_ | refine zqs (d0) ?_ | refine zqs (d1) ?_ | refine zqs (d2) ?_); (simp (disch := omega) only [go_sem, Nat.reduceBEq, ↓reduceIte, reduceCtorEq, Nat.reduceAdd, Nat.reduceLeDiff, p1, pH0, h])) | ((refine zqm _ rfl (fun hc => ?_) (fun hc => ?_)) <;> (first | (cases hc; done) | ((try simp only [] at hc); (try (exfalso; omega))))) | refine zqa ?_ | refine zqn ?_ | refine zqx ?_ | refine z4a ?_ | refine zqu (by (simp (disch := omega) only [go_sem]); rfl) rfl ?_ | (refine J _ ?_; clear J K) | (refine zqf (fun hb => ?_) (fun hb => ?_) <;> (have hb2 := hb; try simp only [z03] at hb2) <;> ((first | have F : (_ : Bool) = _ := hb2 | have F := eq_false hb2 | have F := eq_true hb2); (simp (disch := omega) only [go_sem, Nat.reduceBEq, ↓reduceIte, reduceCtorEq, Nat.reduceAdd, Nat.reduceLeDiff, hb, F, p1, pH0, huk]); clear hb F; (try (exfalso; omega)))))
    all_goals first
      | exact z00 rfl
      | (refine z00 ?_; simp [*]; done)
      | skip
  · have e : z4p x (x.by_.map zc8) = (true) := by
      unfold z4p
      rw [if_neg (c := x.kind = 0) (by omega), if_neg (c := x.kind = 2) (by omega), if_neg (c := x.kind = 3) (by omega), if_neg (c := x.kind = 4) (by omega), if_neg (c := x.kind = 5) (by omega), if_neg (c := x.kind = 6) (by omega), if_neg (c := x.kind = 7 \/ x.kind = 8 \/ x.kind = 9) (by omega), if_neg (c := x.kind = 10) (by omega), if_neg (c := x.kind = 11) (by omega)]
    rw [e]
    repeat' (first | refine zqj ?_ | ((refine zqh fun K J => ?_); (simp (disch := omega) only [go_sem, Nat.reduceBEq, ↓reduceIte, reduceCtorEq, Nat.reduceAdd, Int.reduceEq, p1, pH0, h])) | ((first | refine zqd _ rfl (fun hc => ?_) (fun hc => ?_) | refine zqm _ rfl (fun hc => ?_) (fun hc => ?_)) <;> (first | (cases hc; done) | ((try simp only [] at hc); (try (exfalso; omega))))) | refine zqa ?_ | refine zqk ?_ | refine zqn ?_ | refine zqv ?_ | refine zqy ?_ | refine zqu (by (simp (disch := omega) only [go_sem]); rfl) rfl ?_ | (refine J _ ?_; clear J K))
    all_goals first
      | exact z00 rfl
      | (refine z00 ?_; simp [*]; done)
      | skip
  · have e : z4p x (x.by_.map zc8) = (zfi x.old && decide (1 <= x.old.length) && (zfi x.new && inB x.nth 0 256)) := by
      unfold z4p
      rw [if_neg (c := x.kind = 0) (by omega), if_pos (c := x.kind = 2) (by omega)]
    rw [e]
    have d0 := zb5 x.old (by omega) (fun s hs => by have := a3' s hs; omega) 1
    have d1 := zb5 x.new (by omega) (fun s hs => by have := a4' s hs; omega) 0
    have d2 := z7t x.nth 0 256
    have ll1 := a3
    have ll2 := a4
    have r0 : ∀ l : List ByteArray, decide ((0 : Int) <= (l.length : Int)) = true := fun l => decide_eq_true (by omega)
    have r1 : ∀ l : List ByteArray, decide ((1 : Int) <= (l.length : Int)) = decide (1 <= l.length) := fun l => decide_eq_decide.2 (by omega)
    simp only [r0, r1, Bool.and_true] at d0 d1
    clear e
    generalize (zfi x.old && decide (1 <= x.old.length)) = B at d0 ⊢
    repeat' (first | refine zqj ?_ | ((first | refine zqh fun K J => ?_ | refine zqs (d0) ?_ | refine zqs (d1) ?_ | refine zqs (d2) ?_); (simp (disch := omega) only [go_sem, Nat.reduceBEq, ↓reduceIte, reduceCtorEq, Nat.reduceAdd, Int.reduceEq, p1, pH0, h, z3i])) | ((refine zqm _ rfl (fun hc => ?_) (fun hc => ?_)) <;> (first | (cases hc; done) | ((try simp only [] at hc); (try (exfalso; omega))))) | refine zqa ?_ | refine zqn ?_ | refine zqx ?_ | refine z4a ?_ | refine zqu (by (simp (disch := omega) only [go_sem]); rfl) rfl ?_ | (refine J _ ?_; clear J K) | (refine zqf (fun hb => ?_) (fun hb => ?_) <;> (have hb2 := hb; try simp only [z03] at hb2) <;> ((have F : (_ : Bool) = _ := hb2); (simp (disch := omega) only [go_sem, Nat.reduceBEq, ↓reduceIte, reduceCtorEq, Nat.reduceAdd, hb, p1, pH0, z3i]); clear hb F; (try (exfalso; omega)))))
    all_goals first
      | exact z00 rfl
      | (refine z00 ?_; simp [*]; done)
      | skip
  · have e : z4p x (x.by_.map zc8) = (zfi x.old && (zfi x.new && decide (1 <= x.new.length) && (inB x.nth 0 256 && (decide (0 < x.old.length) || decide (x.nth = 0))))) := by
      unfold z4p
      rw [if_neg (c := x.kind = 0) (by omega), if_neg (c := x.kind = 2) (by omega), if_pos (c := x.kind = 3) (by omega)]
    rw [e]
    have d0 := zb5 x.old (by omega) (fun s hs => by have := a3' s hs; omega) 0
    have d1 := zb5 x.new (by omega) (fun s hs => by have := a4' s hs; omega) 1
    have d2 := z7t x.nth 0 256
    have ll1 := a3
    have ll2 := a4
    have r0 : ∀ l : List ByteArray, decide ((0 : Int) <= (l.length : Int)) = true := fun l => decide_eq_true (by omega)
    have r1 : ∀ l : List ByteArray, decide ((1 : Int) <= (l.length : Int)) = decide (1 <= l.length) := fun l => decide_eq_decide.2 (by omega)
    simp only [r0, r1, Bool.and_true] at d0 d1
    clear e
    generalize (zfi x.new && decide (1 <= x.new.length)) = B at d1 ⊢
    by_cases z : 0 < x.old.length
    · rw [decide_eq_true z, Bool.true_or]
      repeat' (first | refine zqj ?_ | ((first | refine zqh fun K J => ?_ | refine zqs (d0) ?_ | refine zqs (d1) ?_ | refine zqs (d2) ?_); (simp (disch := omega) only [go_sem, Nat.reduceBEq, ↓reduceIte, reduceCtorEq, Nat.reduceAdd, Int.reduceEq, p1, pH0, h, z3i])) | ((refine zqm _ rfl (fun hc => ?_) (fun hc => ?_)) <;> (first | (cases hc; done) | ((try simp only [] at hc); (try (exfalso; omega))))) | refine zqa ?_ | refine zqn ?_ | refine zqx ?_ | refine z4a ?_ | refine zqu (by (simp (disch := omega) only [go_sem]); rfl) rfl ?_ | (refine J _ ?_; clear J K) | (refine zqf (fun hb => ?_) (fun hb => ?_) <;> (have hb2 := hb; try simp only [z03] at hb2) <;> ((first | have F : (_ : Bool) = _ := hb2 | have F := eq_false hb2 | have F := eq_true hb2); (simp (disch := omega) only [go_sem, Nat.reduceBEq, ↓reduceIte, reduceCtorEq, Nat.reduceAdd, hb, F, p1, pH0, z3i]); clear hb F; (try (exfalso; omega)))))
      all_goals first
        | exact z00 rfl
        | (refine z00 ?_; simp [*]; done)
        | skip
    · rw [decide_eq_false z, Bool.false_or]
      repeat' (first | refine zqj ?_ | ((first | refine zqh fun K J => ?_ | refine zqs (d0) ?_ | refine zqs (d1) ?_ | refine zqs (d2) ?_); (simp (disch := omega) only [go_sem, Nat.reduceBEq, ↓reduceIte, reduceCtorEq, Nat.reduceAdd, Int.reduceEq, p1, pH0, h, z3i])) | ((refine zqm _ rfl (fun hc => ?_) (fun hc => ?_)) <;> (first | (cases hc; done) | ((try simp only [] at hc); (try (exfalso; omega))))) | refine zqa ?_ | refine zqn ?_ | refine zqx ?_ | refine z4a ?_ | refine zqu (by (simp (disch := omega) only [go_sem]); rfl) rfl ?_ | (refine J _ ?_; clear J K) | (refine zqf (fun hb => ?_) (fun hb => ?_) <;> (have hb2 := hb; try simp only [z03] at hb2) <;> ((first | have F : (_ : Bool) = _ := hb2 | have F := eq_false hb2 | have F := eq_true hb2); (simp (disch := omega) only [go_sem, Nat.reduceBEq, ↓reduceIte, reduceCtorEq, Nat.reduceAdd, hb, F, p1, pH0, z3i]); clear hb F; (try (exfalso; omega)))))
      all_goals first
        | exact z00 rfl
        | (refine z00 ?_; simp [*]; done)
        | skip
  · have e : z4p x (x.by_.map zc8) = (zfi x.new) := by
      unfold z4p
      rw [if_neg (c := x.kind = 0) (by omega), if_neg (c := x.kind = 2) (by omega), if_neg (c := x.kind = 3) (by omega), if_pos (c := x.kind = 4) (by omega)]
    rw [e]
    have d0 := zb5 x.new (by omega) (fun s hs => by have := a4' s hs; omega) 0
    have ll1 := a3
    have ll2 := a4
    have r0 : ∀ l : List ByteArray, decide ((0 : Int) <= (l.length : Int)) = true := fun l => decide_eq_true (by omega)
    have r1 : ∀ l : List ByteArray, decide ((1 : Int) <= (l.length : Int)) = decide (1 <= l.length) := fun l => decide_eq_decide.2 (by omega)
    simp only [r0, Bool.and_true] at d0
    clear e
    repeat' (first | refine zqj ?_ | ((first | refine zqh fun K J => ?_ | refine zqs (d0) ?_); (simp (disch := omega) only [go_sem, Nat.reduceBEq, ↓reduceIte, reduceCtorEq, Nat.reduceAdd, Int.reduceEq, p1, pH0, h, z3i])) | ((refine zqm _ rfl (fun hc => ?_) (fun hc => ?_)) <;> (first | (cases hc; done) | ((try simp only [] at hc); (try (exfalso; omega))))) | refine zqa ?_ | refine zqn ?_ | refine zqx ?_ | refine z4a ?_ | refine zqu (by (simp (disch := omega) only [go_sem]); rfl) rfl ?_ | (refine J _ ?_; clear J K))
    all_goals first
      | exact z00 rfl
      | (refine z00 ?_; simp [*]; done)
      | skip
  · have e : z4p x (x.by_.map zc8) = (z3j x.label) := by
      unfold z4p
      rw [if_neg (c := x.kind = 0) (by omega), if_neg (c := x.kind = 2) (by omega), if_neg (c := x.kind = 3) (by omega), if_neg (c := x.kind = 4) (by omega), if_pos (c := x.kind = 5) (by omega)]
    rw [e]
    have d0 := zdg x.label (by omega)
    repeat' (first | refine zqj ?_ | ((first | refine zqh fun K J => ?_ | refine zqs (d0) ?_); (simp (disch := omega) only [go_sem, Nat.reduceBEq, ↓reduceIte, reduceCtorEq, Nat.reduceAdd, Int.reduceEq, p1, pH0, h])) | ((refine zqm _ rfl (fun hc => ?_) (fun hc => ?_)) <;> (first | (cases hc; done) | ((try simp only [] at hc); (try (exfalso; omega))))) | refine zqa ?_ | refine zqn ?_ | refine zqx ?_ | refine z4a ?_ | refine zqu (by (simp (disch := omega) only [go_sem]); rfl) rfl ?_ | (refine J _ ?_; clear J K))
    all_goals first
      | exact z00 rfl
      | (refine z00 ?_; simp [*]; done)
      | skip
  · have e : z4p x (x.by_.map zc8) = (inB x.wh 0 3 && z5e x.to) := by
      unfold z4p
      rw [if_neg (c := x.kind = 0) (by omega), if_neg (c := x.kind = 2) (by omega), if_neg (c := x.kind = 3) (by omega), if_neg (c := x.kind = 4) (by omega), if_neg (c := x.kind = 5) (by omega), if_pos (c := x.kind = 6) (by omega)]
    rw [e]
    have d0 := z7t x.wh 0 3
    have d1 := zkq x.to (by omega) fun s hs => by have := a2' s hs; omega
    repeat' (first | refine zqj ?_ | ((first | refine zqh fun K J => ?_ | refine zqs (d0) ?_ | refine zqs (d1) ?_); (simp (disch := omega) only [go_sem, Nat.reduceBEq, ↓reduceIte, reduceCtorEq, Nat.reduceAdd, Int.reduceEq, p1, pH0, h])) | ((refine zqm _ rfl (fun hc => ?_) (fun hc => ?_)) <;> (first | (cases hc; done) | ((try simp only [] at hc); (try (exfalso; omega))))) | refine zqa ?_ | refine zqn ?_ | refine zqx ?_ | refine z4a ?_ | refine zqu (by (simp (disch := omega) only [go_sem]); rfl) rfl ?_ | (refine J _ ?_; clear J K) | (refine zqf (fun hb => ?_) (fun hb => ?_) <;> (have hb2 := hb; try simp only [z03] at hb2) <;> ((have F : (_ : Bool) = _ := hb2); (simp (disch := omega) only [go_sem, Nat.reduceBEq, ↓reduceIte, reduceCtorEq, Nat.reduceAdd, hb, p1, pH0]); clear hb F; (try (exfalso; omega)))))
    all_goals first
      | exact z00 rfl
      | (refine z00 ?_; simp [*]; done)
      | skip
  · have e : z4p x (x.by_.map zc8) = (inB x.act 1 1048576 && (inB x.item (-1) 31 && inB x.day 0 1048576)) := by
      unfold z4p
      rw [if_neg (c := x.kind = 0) (by omega), if_neg (c := x.kind = 2) (by omega), if_neg (c := x.kind = 3) (by omega), if_neg (c := x.kind = 4) (by omega), if_neg (c := x.kind = 5) (by omega), if_neg (c := x.kind = 6) (by omega), if_pos (c := x.kind = 7 \/ x.kind = 8 \/ x.kind = 9) (by omega)]
    rw [e]
    have d0 := z7t x.act 1 1048576
    have d1 := z7t x.item (-1) 31
    have d2 := z7t x.day 0 1048576
    repeat' (first | refine zqj ?_ | ((first | refine zqh fun K J => ?_ | refine zqs (d0) ?_ | refine zqs (d1) ?_ | refine zqs (d2) ?_); (simp (disch := omega) only [go_sem, Nat.reduceBEq, ↓reduceIte, reduceCtorEq, Nat.reduceAdd, Int.reduceEq, p1, pH0, h])) | ((first | refine zqd _ rfl (fun hc => ?_) (fun hc => ?_) | refine zqm _ rfl (fun hc => ?_) (fun hc => ?_)) <;> (first | (cases hc; done) | ((try simp only [] at hc); (try (exfalso; omega))))) | refine zqa ?_ | refine zqb ?_ | refine zqn ?_ | refine zqx ?_ | refine z4a ?_ | refine zqu (by (simp (disch := omega) only [go_sem]); rfl) rfl ?_ | (refine J _ ?_; clear J K) | (refine zqf (fun hb => ?_) (fun hb => ?_) <;> (have hb2 := hb; try simp only [z03] at hb2) <;> ((have F : (_ : Bool) = _ := hb2); (simp (disch := omega) only [go_sem, Nat.reduceBEq, ↓reduceIte, reduceCtorEq, Nat.reduceAdd, hb, p1, pH0]); clear hb F; (try (exfalso; omega)))))
    all_goals first
      | exact z00 rfl
      | (refine z00 ?_; simp [*]; done)
      | skip
  · have e : z4p x (x.by_.map zc8) = (inB x.act 1 1048576 && (inB x.item (-1) 31 && inB x.day 0 1048576)) := by
      unfold z4p
      rw [if_neg (c := x.kind = 0) (by omega), if_neg (c := x.kind = 2) (by omega), if_neg (c := x.kind = 3) (by omega), if_neg (c := x.kind = 4) (by omega), if_neg (c := x.kind = 5) (by omega), if_neg (c := x.kind = 6) (by omega), if_pos (c := x.kind = 7 \/ x.kind = 8 \/ x.kind = 9) (by omega)]
    rw [e]
    have d0 := z7t x.act 1 1048576
    have d1 := z7t x.item (-1) 31
    have d2 := z7t x.day 0 1048576
    repeat' (first | refine zqj ?_ | ((first | refine zqh fun K J => ?_ | refine zqs (d0) ?_ | refine zqs (d1) ?_ | refine zqs (d2) ?_); (simp (disch := omega) only [go_sem, Nat.reduceBEq, ↓reduceIte, reduceCtorEq, Nat.reduceAdd, Int.reduceEq, p1, pH0, h])) | ((first | refine zqd _ rfl (fun hc => ?_) (fun hc => ?_) | refine zqm _ rfl (fun hc => ?_) (fun hc => ?_)) <;> (first | (cases hc; done) | ((try simp only [] at hc); (try (exfalso; omega))))) | refine zqa ?_ | refine zqb ?_ | refine zqn ?_ | refine zqx ?_ | refine z4a ?_ | refine zqu (by (simp (disch := omega) only [go_sem]); rfl) rfl ?_ | (refine J _ ?_; clear J K) | (refine zqf (fun hb => ?_) (fun hb => ?_) <;> (have hb2 := hb; try simp only [z03] at hb2) <;> ((have F : (_ : Bool) = _ := hb2); (simp (disch := omega) only [go_sem, Nat.reduceBEq, ↓reduceIte, reduceCtorEq, Nat.reduceAdd, hb, p1, pH0]); clear hb F; (try (exfalso; omega)))))
    all_goals first
      | exact z00 rfl
      | (refine z00 ?_; simp [*]; done)
      | skip
  · have e : z4p x (x.by_.map zc8) = (inB x.act 1 1048576 && (inB x.item (-1) 31 && inB x.day 0 1048576)) := by
      unfold z4p
      rw [if_neg (c := x.kind = 0) (by omega), if_neg (c := x.kind = 2) (by omega), if_neg (c := x.kind = 3) (by omega), if_neg (c := x.kind = 4) (by omega), if_neg (c := x.kind = 5) (by omega), if_neg (c := x.kind = 6) (by omega), if_pos (c := x.kind = 7 \/ x.kind = 8 \/ x.kind = 9) (by omega)]
    rw [e]
    have d0 := z7t x.act 1 1048576
    have d1 := z7t x.item (-1) 31
    have d2 := z7t x.day 0 1048576
    repeat' (first | refine zqj ?_ | ((first | refine zqh fun K J => ?_ | refine zqs (d0) ?_ | refine zqs (d1) ?_ | refine zqs (d2) ?_); (simp (disch := omega) only [go_sem, Nat.reduceBEq, ↓reduceIte, reduceCtorEq, Nat.reduceAdd, Int.reduceEq, p1, pH0, h])) | ((first | refine zqd _ rfl (fun hc => ?_) (fun hc => ?_) | refine zqm _ rfl (fun hc => ?_) (fun hc => ?_)) <;> (first | (cases hc; done) | ((try simp only [] at hc); (try (exfalso; omega))))) | refine zqa ?_ | refine zqn ?_ | refine zqx ?_ | refine z4a ?_ | refine zqu (by (simp (disch := omega) only [go_sem]); rfl) rfl ?_ | (refine J _ ?_; clear J K) | (refine zqf (fun hb => ?_) (fun hb => ?_) <;> (have hb2 := hb; try simp only [z03] at hb2) <;> ((have F : (_ : Bool) = _ := hb2); (simp (disch := omega) only [go_sem, Nat.reduceBEq, ↓reduceIte, reduceCtorEq, Nat.reduceAdd, hb, p1, pH0]); clear hb F; (try (exfalso; omega)))))
    all_goals first
      | exact z00 rfl
      | (refine z00 ?_; simp [*]; done)
      | skip
  · have e : z4p x (x.by_.map zc8) = (zfh x.event && inB x.day 0 1048576) := by
      unfold z4p
      rw [if_neg (c := x.kind = 0) (by omega), if_neg (c := x.kind = 2) (by omega), if_neg (c := x.kind = 3) (by omega), if_neg (c := x.kind = 4) (by omega), if_neg (c := x.kind = 5) (by omega), if_neg (c := x.kind = 6) (by omega), if_neg (c := x.kind = 7 \/ x.kind = 8 \/ x.kind = 9) (by omega), if_pos (c := x.kind = 10) (by omega)]
    rw [e]
    have d0 := zew x.event (by omega)
    have d1 := z7t x.day 0 1048576
    repeat' (first | refine zqj ?_ | ((first | refine zqh fun K J => ?_ | refine zqs (d0) ?_ | refine zqs (d1) ?_); (simp (disch := omega) only [go_sem, Nat.reduceBEq, ↓reduceIte, reduceCtorEq, Nat.reduceAdd, Int.reduceEq, p1, pH0, h])) | ((first | refine zqd _ rfl (fun hc => ?_) (fun hc => ?_) | refine zqm _ rfl (fun hc => ?_) (fun hc => ?_)) <;> (first | (cases hc; done) | ((try simp only [] at hc); (try (exfalso; omega))))) | refine zqa ?_ | refine zqn ?_ | refine zqx ?_ | refine z4a ?_ | refine zqu (by (simp (disch := omega) only [go_sem]); rfl) rfl ?_ | (refine J _ ?_; clear J K) | (refine zqf (fun hb => ?_) (fun hb => ?_) <;> (have hb2 := hb; try simp only [z03] at hb2) <;> ((have F : (_ : Bool) = _ := hb2); (simp (disch := omega) only [go_sem, Nat.reduceBEq, ↓reduceIte, reduceCtorEq, Nat.reduceAdd, hb, p1, pH0]); clear hb F; (try (exfalso; omega)))))
    all_goals first
      | exact z00 rfl
      | (refine z00 ?_; simp [*]; done)
      | skip
  · have e : z4p x (x.by_.map zc8) = (inB x.act 1 1048576 && (inB x.item 0 31 && (decide (x.by_.length = 1) && ((x.by_.all fun y => inB y.kind 0 6) && (x.by_.map zc8).all id)))) := by
      unfold z4p
      rw [if_neg (c := x.kind = 0) (by omega), if_neg (c := x.kind = 2) (by omega), if_neg (c := x.kind = 3) (by omega), if_neg (c := x.kind = 4) (by omega), if_neg (c := x.kind = 5) (by omega), if_neg (c := x.kind = 6) (by omega), if_neg (c := x.kind = 7 \/ x.kind = 8 \/ x.kind = 9) (by omega), if_neg (c := x.kind = 10) (by omega), if_pos (c := x.kind = 11) (by omega)]
    rw [e]
    have d0 := z7t x.act 1 1048576
    have d1 := z7t x.item 0 31
    cases hbn : x.by_ with
    | nil =>
      repeat' (first | refine zqj ?_ | ((first | refine zqh fun K J => ?_ | refine zqs (d0) ?_ | refine zqs (d1) ?_); (simp (disch := omega) only [go_sem, Nat.reduceBEq, ↓reduceIte, reduceCtorEq, Nat.reduceAdd, Int.reduceEq, p1, pH0, h, List.map_nil])) | ((first | refine zqd _ rfl (fun hc => ?_) (fun hc => ?_) | refine zqm _ rfl (fun hc => ?_) (fun hc => ?_)) <;> (first | (cases hc; done) | ((try simp only [] at hc); (try (exfalso; omega))))) | refine zqa ?_ | refine zqn ?_ | refine zqx ?_ | refine z4a ?_ | refine zqu (by (simp (disch := omega) only [go_sem, Nat.reduceBEq, ↓reduceIte]); rfl) rfl ?_ | (refine J _ ?_; clear J K) | (refine zqf (fun hb => ?_) (fun hb => ?_) <;> (have hb2 := hb; try simp only [z03] at hb2) <;> ((have F : (_ : Bool) = _ := hb2); (simp (disch := omega) only [go_sem, Nat.reduceBEq, ↓reduceIte, reduceCtorEq, Nat.reduceAdd, hb, p1, pH0, z3l, hbn, List.length_nil, List.map_nil]); clear hb F; (try (exfalso; omega)))))
      all_goals first
        | exact z00 rfl
        | (refine z00 ?_; simp [*]; done)
        | skip
    | cons y l =>
      have d2 := z7t y.kind 0 6
      have d3 := ih y (by rw [hbn]; simp) (hk y (by rw [hbn]; simp))
      have hln : x.by_.length = l.length + 1 := by rw [hbn]; rfl
      clear e hb
      cases l with
      | nil =>
        simp only [List.length_cons, List.length_nil, List.all_cons, List.all_nil, List.map_cons, List.map_nil, Bool.and_true, id_eq]
        repeat' (first | refine zqj ?_ | ((first | refine zqh fun K J => ?_ | refine zqs (d0) ?_ | refine zqs (d1) ?_ | refine zqs (d2) ?_ | refine zqs (d3) ?_); (simp (disch := omega) only [go_sem, Nat.reduceBEq, ↓reduceIte, reduceCtorEq, Nat.reduceAdd, Int.reduceEq, p1, pH0, h, List.map_cons, List.map_nil])) | ((first | refine zqd _ rfl (fun hc => ?_) (fun hc => ?_) | refine zqm _ rfl (fun hc => ?_) (fun hc => ?_)) <;> (first | (cases hc; done) | ((try simp only [] at hc); (try (exfalso; omega))))) | refine zqa ?_ | refine zqn ?_ | refine zqx ?_ | refine z4a ?_ | refine zqu (by (simp (disch := omega) only [go_sem]); rfl) rfl ?_ | (refine J _ ?_; clear J K) | (refine zqf (fun hb => ?_) (fun hb => ?_) <;> (have hb2 := hb; try simp only [z03] at hb2) <;> ((first | have F : (_ : Bool) = _ := hb2 | have F := eq_false hb2 | have F := eq_true hb2); (simp (disch := omega) only [go_sem, Nat.reduceBEq, ↓reduceIte, reduceCtorEq, Nat.reduceAdd, hb, F, p1, pH0, z3l, hbn, zfp, List.length_cons, List.length_nil, List.map_cons, List.map_nil]); clear hb F; (try (exfalso; omega)))))
        all_goals first
          | exact z00 rfl
          | (refine z00 ?_; simp [*]; done)
          | skip
      | cons z l =>
        rw [decide_eq_false (p := (y :: z :: l).length = 1) (by simp only [List.length_cons]; omega), Bool.false_and]
        have hl2 : (z :: l).length = l.length + 1 := rfl
        have hl1 : (y :: z :: l).length = l.length + 2 := rfl
        repeat' (first | refine zqj ?_ | ((first | refine zqh fun K J => ?_ | refine zqs (d0) ?_ | refine zqs (d1) ?_); (simp (disch := omega) only [go_sem, Nat.reduceBEq, ↓reduceIte, reduceCtorEq, Nat.reduceAdd, Int.reduceEq, p1, pH0, h, List.map_cons])) | ((first | refine zqd _ rfl (fun hc => ?_) (fun hc => ?_) | refine zqm _ rfl (fun hc => ?_) (fun hc => ?_)) <;> (first | (cases hc; done) | ((try simp only [] at hc); (try (exfalso; omega))))) | refine zqa ?_ | refine zqn ?_ | refine zqx ?_ | refine z4a ?_ | refine zqu (by (simp (disch := omega) only [go_sem, Nat.reduceBEq, ↓reduceIte]); rfl) rfl ?_ | (refine J _ ?_; clear J K) | (refine zqf (fun hb => ?_) (fun hb => ?_) <;> (have hb2 := hb; try simp only [z03] at hb2) <;> ((have F : (_ : Bool) = _ := hb2); (simp (disch := omega) only [go_sem, Nat.reduceBEq, ↓reduceIte, reduceCtorEq, Nat.reduceAdd, hb, p1, pH0, z3l, hbn, List.map_cons]); clear hb F; (try (exfalso; omega)))))
        all_goals first
          | exact z00 rfl
          | (refine z00 ?_; simp [*]; done)
          | (exfalso; omega)
          | skip
end
end Go.Proofs.YtppebcifiejplaaGreat
