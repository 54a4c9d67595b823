import Derived.Test.YtppebcifiejplaaGreatDoorWD
import Derived.Test.YtppebcifiejplaaGreatDoorRows
import Derived.Carry
import Derived.WideShapes
import Derived.Maps.RangeRun
/-
 Lemmas of the claim. No condition but those that each names.
-/
set_option linter.unusedSimpArgs false
set_option linter.unusedVariables false
set_option maxHeartbeats 8000000
set_option linter.unusedSectionVars false
namespace Go.Proofs.YtppebcifiejplaaGreatDoor
section
open Abs Facts Tr
attribute [local irreducible] awp
set_option maxRecDepth 100000
theorem zp9 (p k : Int) : PC Tryz.prog 86 [.int .i64 p, .int .i64 k] (.bool (z2h p k)) := by
 refine z1y 1 rfl rfl (z1v [] Tryz.func86 rfl (by decide +kernel) z0i (by decide +kernel) (by simp [Tryz.ntmps86]) ?_)
 show awp _ _ (Code.seq _ _) _ _
 by_cases O : 0 <= p /\ p < 8
 ·rcases zvf O with rfl | rfl | rfl | rfl | rfl | rfl | rfl | rfl
  all_goals clear O
  all_goals (repeat' (first | refine zqj ?_ | ((refine zqh fun K J => ?_); (simp (disch := omega) only [go_sem, Nat.reduceBEq, ↓reduceIte, Int.reduceEq])) | ((refine zqm _ rfl (fun hc => ?_) (fun hc => ?_)) <;> (first | (cases hc; done) | ((try simp only [] at hc); (try (exfalso; omega))))) | refine zqa ?_ | refine zqk ?_ | refine zqn ?_ | refine zqv ?_ | refine zqx ?_ | refine zqy ?_ | refine z23 ?_ | refine zqu (by (simp (disch := omega) only [go_sem]); rfl) rfl ?_ | (refine J _ ?_; clear J K) | (refine zqf (fun hb => ?_) (fun hb => ?_) <;> (have hb2 := hb; try simp only [z01] at hb2) <;> ((first | have F := eq_false hb2 | have F := eq_true hb2); (simp (disch := omega) only [go_sem, Nat.reduceBEq, ↓reduceIte, F]); clear hb F; (try (exfalso; omega))))))
  all_goals refine z00 ?_
  all_goals (simp_all [z2h, belowL]; done)
 ·rw [show z2h p k = false from if_neg O]
  repeat' (first | refine zqj ?_ | ((refine zqh fun K J => ?_); (simp (disch := omega) only [go_sem, Nat.reduceBEq, ↓reduceIte])) | ((refine zqm _ rfl (fun hc => ?_) (fun hc => ?_)) <;> (((try simp only [z01] at hc); (try (exfalso; omega))))) | refine zqa ?_ | refine zqk ?_ | refine zqn ?_ | refine zqv ?_ | refine zqy ?_ | refine zqu (by (simp (disch := omega) only [go_sem]); rfl) rfl ?_ | (refine J _ ?_; clear J K))
  all_goals exact z00 rfl
theorem ztp (s : ByteArray) (hs : s.size <= maxLen) : PC Tryz.prog 335 [.str s] (.bool (z87 s)) := by
 unfold maxLen at hs
 refine z1y 1 (by simp only [pureD.pureL, pureD, Bool.and_self]) rfl (z1v [] Tryz.func335 rfl (by decide +kernel) z0i (by decide +kernel) (by simp [Tryz.ntmps335]) ?_)
 show awp _ _ (Code.seq _ _) _ _
 have hbl := z18 s
 repeat' (first | refine zqj ?_ | ((refine zqh fun K J => ?_); (simp (disch := omega) only [go_sem])) | refine zqa ?_ | (refine J _ ?_; clear J K))
 (refine z3h (fun U st => ∃ (k : _), U = s.size - k /\ st.t 0 = .str s /\ st.t 3 = .int .i64 k /\ (k <= s.size) /\ (((bl s).take k).all ink = true)) ?_ ?_); rotate_left; (rintro U st ⟨k, rfl, q0, q3, qp0, qp1⟩); rotate_left
 ·(refine ⟨_, 0, rfl, ?_⟩); (simp (disch := omega) only [go_sem, Nat.reduceBEq, true_and, Int.natCast_zero])
  simp
 have hno : ∀ h : k < s.size, ink ((bl s)[k]'h) = false -> z87 s = false := fun h hi => by
  unfold z87; rw [z3r (l := bl s) (k := k) h hi, Bool.and_false]
 by_cases O : k < s.size
 ·repeat' (first | refine zqj ?_ | ((first | refine zqh fun K J => ?_ | refine zqr fun K J => ?_); (simp (disch := omega) only [go_sem, Nat.reduceBEq, ↓reduceIte, q0, q3, zdi])) | ((first | refine zqd _ rfl (fun hc => ?_) (fun hc => ?_) | refine zqm _ rfl (fun hc => ?_) (fun hc => ?_)) <;> (first | (cases hc; done) | ((try simp only [z01] at hc); (try (exfalso; omega))))) | refine zqa ?_ | refine zqb ?_ | refine zqk ?_ | refine zqn ?_ | refine zqv ?_ | refine zqx ?_ | refine zqy ?_ | refine z23 ?_ | refine zqo ?_ | refine zqu (by (simp (disch := omega) only [go_sem]); rfl) rfl ?_ | (refine J _ ?_; clear J K) | (refine zqf (fun hb => ?_) (fun hb => ?_) <;> (have hb2 := hb; try simp only [z01] at hb2) <;> ((first | have F := eq_false hb2 | have F := eq_true hb2); (simp (disch := omega) only [go_sem, Nat.reduceBEq, ↓reduceIte, F, q0, q3, zdi]); clear hb F; (try (exfalso; omega)))))
  ·exact z00 (hno O (by unfold ink; exact decide_eq_false (by omega))).symm
  ·(refine Exists.intro _ (And.intro ?_ ⟨k + 1, rfl, ?_⟩)); rotate_left; (simp (disch := omega) only [go_sem, Nat.reduceBEq, q0, q3, true_and, Int.natCast_add, Int.natCast_one]); rotate_left
   ·omega
   ·exact ⟨by omega, z2f (by omega) qp1 (by unfold ink; exact decide_eq_true (by omega))⟩
  ·exact z00 (hno O (by unfold ink; exact decide_eq_false (by omega))).symm
 ·have hall : (bl s).all ink = true := z2l (k := k) (by omega) qp1
  repeat' (first | refine zqj ?_ | ((refine zqh fun K J => ?_); (simp (disch := omega) only [go_sem, Nat.reduceBEq, ↓reduceIte, q0, q3])) | ((refine zqd _ rfl (fun hc => ?_) (fun hc => ?_)) <;> (((try simp only [z01] at hc); (try (exfalso; omega))))) | refine zqc ?_ | refine zqn ?_ | refine zqv ?_ | refine zqz ?_ | refine zqp ?_ | refine zqu (by (simp (disch := omega) only [go_sem]); rfl) rfl ?_ | (refine J _ ?_; clear J K) | (refine zqf (fun hb => ?_) (fun hb => ?_) <;> (have hb2 := hb; try simp only [z01] at hb2) <;> ((first | have F := eq_false hb2 | have F := eq_true hb2); (simp (disch := omega) only [go_sem, Nat.reduceBEq, ↓reduceIte, F, q0]); clear hb F; (try (exfalso; omega)))))
  all_goals first
   | exact z00 (by unfold z87; rw [hall, Bool.and_true, decide_eq_decide]; omega)
   | exact z00 (by unfold z87; rw [decide_eq_false (by omega)]; rfl)
theorem znf (l : List Wd) (hl : l.length <= maxLen) (hs : ∀ w ∈ l, w.text.size <= maxLen) : PC Tryz.prog 318 [z0s l] (.bool (zl7 l)) := by
 unfold maxLen at hl
 refine z1y 1 (by simp only [pureD.pureL, z13, Bool.and_self]) rfl (z1v [] Tryz.func318 rfl (by decide +kernel) z0i (by decide +kernel) (by simp [Tryz.ntmps318]) ?_)
 show awp _ _ (Code.seq _ _) _ _
 have hw := fun (i : Nat) (h : i < l.length) => ztp l[i].text (hs _ (List.getElem_mem h))
 repeat' (first | refine zqj ?_ | ((refine zqh fun K J => ?_); (simp (disch := omega) only [go_sem, z0s])) | refine zqa ?_ | (refine J _ ?_; clear J K))
 (refine z3h (fun U st => ∃ (k : _), U = l.length - k /\ st.t 0 = z0s l /\ st.t 3 = .int .i64 k /\ (k <= l.length) /\ ((l.take k).all (fun w => z87 w.text) = true)) ?_ ?_); rotate_left; (rintro U st ⟨k, rfl, s0, s3, sp0, sp1⟩); rotate_left
 ·(refine ⟨_, 0, rfl, ?_⟩); (simp (disch := omega) only [go_sem, Nat.reduceBEq, true_and, Int.natCast_zero, z0s])
  simp
 by_cases O : k < l.length
 ·repeat' (first | refine zqj ?_ | ((first | refine zqh fun K J => ?_ | refine zqr fun K J => ?_ | refine zqs (hw k O) ?_); (simp (disch := omega) only [go_sem, Nat.reduceBEq, ↓reduceIte, reduceCtorEq, Nat.reduceAdd, s0, s3, z0s])) | ((first | refine zqd _ rfl (fun hc => ?_) (fun hc => ?_) | refine zqm _ rfl (fun hc => ?_) (fun hc => ?_)) <;> (((try simp only [z01] at hc); (try (exfalso; omega))))) | refine zqa ?_ | refine zqb ?_ | refine zqk ?_ | refine zqn ?_ | refine zqv ?_ | refine zqx ?_ | refine zqy ?_ | refine z23 ?_ | refine zqo ?_ | refine zqu (by (simp (disch := omega) only [go_sem]); rfl) rfl ?_ | (refine J _ ?_; clear J K))
  ·exact z00 (by unfold zl7; rw [z3r (f := fun w : Wd => z87 w.text) (k := k) O (by assumption), Bool.and_false])
  ·(refine Exists.intro _ (And.intro ?_ ⟨k + 1, rfl, ?_⟩)); rotate_left; (simp (disch := omega) only [go_sem, Nat.reduceBEq, s0, s3, true_and, Int.natCast_add, Int.natCast_one]); rotate_left
   ·omega
   ·exact ⟨by omega, z2f O sp1 (by assumption)⟩
 ·repeat' (first | refine zqj ?_ | ((refine zqh fun K J => ?_); (simp (disch := omega) only [go_sem, Nat.reduceBEq, ↓reduceIte, s0, s3, z0s])) | ((refine zqd _ rfl (fun hc => ?_) (fun hc => ?_)) <;> (((try simp only [z01] at hc); (try (exfalso; omega))))) | refine zqc ?_ | refine zqn ?_ | refine zqv ?_ | refine zqz ?_ | refine zqp ?_ | refine zqu (by (simp (disch := omega) only [go_sem]); rfl) rfl ?_ | (refine J _ ?_; clear J K))
  refine z00 ?_
  unfold zl7
  rw [z2l (by omega) sp1, Bool.and_true, decide_eq_decide]; omega
theorem zg8 (t : T) (hs : szB t = true) : PC Tryz.prog 298 [z25 t] (.bool (ze3 t)) := by
 obtain ⟨h0, h1, g1, h2, g2, h3, _⟩ := (z2e t).1 hs
 have r1 := znf t.head (by unfold maxLen; omega) (fun w hw => by have := g1 w hw; unfold maxLen; omega)
 have r2 := znf t.words (by unfold maxLen; omega) (fun w hw => by have := g2 w hw; unfold maxLen; omega)
 have r3 := zd5 t.label (by unfold maxLen; omega)
 refine z1y 1 (by simp only [pureD.pureL, z05, Bool.and_self]) rfl (z1v [] Tryz.func298 rfl (by decide +kernel) z0i (by decide +kernel) (by simp [Tryz.ntmps298]) ?_)
 show awp _ _ (Code.seq _ _) _ _
 unfold ze3
 by_cases O : t.kind = 0
 ·rw [if_pos O]
  repeat' (first | refine zqj ?_ | ((refine zqh fun K J => ?_); (simp (disch := omega) only [go_sem, Nat.reduceBEq, ↓reduceIte, reduceCtorEq, Nat.reduceAdd, O])) | ((refine zqd _ rfl (fun hc => ?_) (fun hc => ?_)) <;> (first | (cases hc; done) | ((try simp only [] at hc); (try (exfalso; omega))))) | refine zqg ?_ | refine zqu (by (simp (disch := omega) only [go_sem]); rfl) rfl ?_ | (refine J _ ?_; clear J K) | (refine zqf (fun hb => ?_) (fun hb => ?_) <;> (have hb2 := hb; try simp only [z01] at hb2) <;> ((first | have F := eq_false hb2 | have F := eq_true hb2); (simp (disch := omega) only [go_sem, Nat.reduceBEq, ↓reduceIte, reduceCtorEq, Nat.reduceAdd, F, z0s]); clear hb F; (try (exfalso; omega)))))
  all_goals
   refine z00 ?_
   unfold z1c
   first
    | (rw [decide_eq_true (p := t.label = _) (by assumption), decide_eq_true (show t.head.length = 0 by omega)]; simp only [Bool.true_and, decide_eq_decide]; omega)
    | (rw [decide_eq_true (p := t.label = _) (by assumption), decide_eq_false (show ¬ t.head.length = 0 by omega)]; rfl)
    | (rw [decide_eq_false (p := t.label = _) (by assumption)]; rfl)
 ·rw [if_neg O]
  repeat' (first | refine zqj ?_ | ((first | refine zqh fun K J => ?_ | refine zqs (r1) ?_ | refine zqs (r2) ?_ | refine zqs (r3) ?_); (simp (disch := omega) only [go_sem, Nat.reduceBEq, ↓reduceIte, reduceCtorEq, Nat.reduceAdd])) | ((refine zqd _ rfl (fun hc => ?_) (fun hc => ?_)) <;> (((try simp only [z01] at hc); (try (exfalso; omega))))) | refine zqb ?_ | refine zqn ?_ | refine zqu (by (simp (disch := omega) only [go_sem]); rfl) rfl ?_ | (refine J _ ?_; clear J K) | (refine zqf (fun hb => ?_) (fun hb => ?_) <;> (have hb2 := hb; try simp only [z01] at hb2) <;> ((first | have F : (_ : Bool) = _ := hb2 | have F := eq_false hb2 | have F := eq_true hb2); (simp (disch := omega) only [go_sem, Nat.reduceBEq, ↓reduceIte, reduceCtorEq, Nat.reduceAdd, hb, F, z0s]); clear hb F; (try (exfalso; omega)))))
  all_goals
   refine z00 ?_
   first
    | (rw [decide_eq_false (p := 0 < t.kind /\ t.kind <= 7) (by omega)]; rfl)
    | (rw [decide_eq_true (p := 0 < t.kind /\ t.kind <= 7) (by omega)]; simp_all; done)
theorem zpa : ∀ t : T, szB t = true -> cntT t <= 1000000000 -> PC Tryz.prog 88 [z25 t] (.int .i64 (cntT t)) := by
 refine z55 fun t ih hs hc => ?_
 obtain ⟨h0, h1, g1, h2, g2, h3, h4⟩ := (z2e t).1 hs
 have hce := z6m t
 refine z1y 1 (by simp only [pureD.pureL, z05, Bool.and_self]) rfl (z1v [] Tryz.func88 rfl (by decide +kernel) z0i (by decide +kernel) (by simp [Tryz.ntmps88]) ?_)
 show awp _ _ (Code.seq _ _) _ _
 repeat' (first | refine zqj ?_ | ((refine zqh fun K J => ?_); (simp (disch := omega) only [go_sem])) | refine zqa ?_ | (refine J _ ?_; clear J K))
 (refine z3h (fun U st => ∃ (i : _), U = t.kids.length - i /\ st.t 1 = .ptr 0 0 /\ st.t 3 = .int .i64 (1 + ((t.kids.take i).flatMap z0d).length : Nat) /\ st.t 4 = .int .i64 i /\ st.H 0 = some (.box 27 (z07 t)) /\ (i <= t.kids.length) /\ (1 <= st.nx)) ?_ ?_); rotate_left; (rintro U st ⟨i, rfl, q1, q3, q4, qH0, qp0, qp1⟩); rotate_left
 ·(refine ⟨_, 0, rfl, ?_⟩); (simp (disch := omega) only [go_sem, Nat.reduceBEq, Nat.reduceLeDiff, and_self, Int.natCast_one, Int.natCast_zero, List.flatMap_nil])
  try simp
 have hin := fun (h : i < t.kids.length) => ih t.kids[i] (List.getElem_mem h) (h4 _ (List.getElem_mem h)) (by have := za2 (List.getElem_mem h); omega)
 have hb := z3l t.kids (i + 1)
 have hsu := fun (h : i < t.kids.length) => z5k t.kids i h
 repeat' (first | refine zqj ?_ | ((first | refine zqh fun K J => ?_ | refine zqr fun K J => ?_ | refine zqs (hin (by omega)) ?_); (simp (disch := omega) only [go_sem, Nat.reduceBEq, ↓reduceIte, reduceCtorEq, Nat.reduceAdd, q1, q3, q4, qH0, z10])) | ((refine zqd _ rfl (fun hc => ?_) (fun hc => ?_)) <;> (((try simp only [z01] at hc); (try (exfalso; omega))))) | refine zqa ?_ | refine zqb ?_ | refine zqc ?_ | refine zqn ?_ | refine zqv ?_ | refine zqy ?_ | refine zqz ?_ | refine zqp ?_ | refine zqu (by (simp (disch := omega) only [go_sem]); rfl) rfl ?_ | (refine J _ ?_; clear J K))
 ·have hsu := hsu (by omega)
  (refine Exists.intro _ (And.intro ?_ ⟨i + 1, rfl, ?_⟩)); rotate_left; (simp (disch := omega) only [go_sem, Nat.reduceBEq, q1, q3, q4, qH0, true_and, Int.natCast_add, Int.natCast_one, hsu]); rotate_left
  ·omega
  ·exact ⟨by omega, by omega, by omega⟩
 ·have hi : i = t.kids.length := by omega
  subst hi
  refine z56 ?_
  rw [List.take_length, hce]
theorem zpb : ∀ t : T, szB t = true -> ∀ d : Nat, d <= 100 -> PC Tryz.prog 246 [z25 t, .int .i64 d] (.bool (zaq t d)) := by
 refine z55 fun t ih hs d V => ?_
 have ha := zg8 t hs
 obtain ⟨h0, h1, g1, h2, g2, h3, h4⟩ := (z2e t).1 hs
 rw [zsi]
 refine z1y 1 (by simp only [pureD.pureL, z05, pureD, Bool.and_self]) rfl (z1v [] Tryz.func246 rfl (by decide +kernel) z0i (by decide +kernel) (by simp [Tryz.ntmps246]) ?_)
 show awp _ _ (Code.seq _ _) _ _
 by_cases hb : (decide (8 < d) || (decide (0 < d) && decide (t.kind = 0)) || !ze3 t || decide (64 < t.kids.length)) = true
 ·rw [hb]
  simp only [z01] at hb
  repeat' (first | refine zqj ?_ | ((first | refine z03 (N := 3) rfl fun K J => ?_ | refine zqs (ha) ?_); (simp (disch := omega) only [go_sem, Nat.reduceBEq, ↓reduceIte])) | ((refine zqd _ rfl (fun hc => ?_) (fun hc => ?_)) <;> (first | (cases hc; done) | ((try simp only [z01] at hc); (try (exfalso; omega))))) | refine zqb ?_ | refine zqg ?_ | refine zqu (by (simp (disch := omega) only [go_sem]); rfl) rfl ?_ | (refine J _ ?_; clear J K) | (refine zqf (fun hb => ?_) (fun hb => ?_) <;> (have hb2 := hb; try simp only [z01] at hb2) <;> ((first | have F : (_ : Bool) = _ := hb2 | have F := eq_false hb2 | have F := eq_true hb2); (simp (disch := omega) only [go_sem, Nat.reduceBEq, ↓reduceIte, reduceCtorEq, Nat.reduceAdd, Nat.reduceLeDiff, F, z10]); clear hb F; (try (exfalso; omega)))))
  all_goals first
   | exact z00 rfl
   | (exfalso; simp_all; done)
   | (exfalso; simp_all; omega)
 ·rw [Bool.not_eq_true] at hb
  rw [hb]
  simp only [Bool.or_eq_false_iff, Bool.and_eq_false_iff, decide_eq_false_iff_not, Bool.not_eq_false'] at hb
  obtain ⟨⟨⟨b1, b2⟩, b3⟩, b4⟩ := hb
  rw [b3] at ha
  repeat' (first | refine zqj ?_ | ((first | refine z03 (N := 3) rfl fun K J => ?_ | refine zqs (ha) ?_); (simp (disch := omega) only [go_sem, Nat.reduceBEq, ↓reduceIte, reduceCtorEq, Nat.reduceAdd, z10])) | ((refine zqd _ rfl (fun hc => ?_) (fun hc => ?_)) <;> (((try simp only [z01] at hc); (try (exfalso; omega))))) | refine zqb ?_ | (refine J _ ?_; clear J K) | (refine zqf (fun hb => ?_) (fun hb => ?_) <;> (have hb2 := hb; try simp only [z01] at hb2) <;> ((first | have F := eq_false hb2 | have F := eq_true hb2); (simp (disch := omega) only [go_sem, Nat.reduceBEq, ↓reduceIte, reduceCtorEq, Nat.reduceAdd, Nat.reduceLeDiff, F]); clear hb F; (try (exfalso; omega)))))
  all_goals
   clear b2
   (refine z1o (fun st => st.t 1 = .int .i64 d /\ st.t 2 = .ptr 0 0 /\ st.H 0 = some (.box 27 (z07 t)) /\ (1 <= st.nx)) ?_ ?_); rotate_left; (rintro st ⟨p1, p2, pH0, pp0⟩); rotate_left
   ·(simp (disch := omega) only [go_sem, Nat.reduceBEq, Nat.reduceLeDiff, and_self])
   repeat' (first | ((refine zqh fun K J => ?_); (simp (disch := omega) only [go_sem])) | refine zqa ?_ | (refine J _ ?_; clear J K))
   (refine z3h (fun U st => ∃ (i : _), U = t.kids.length - i /\ st.t 1 = .int .i64 d /\ st.t 2 = .ptr 0 0 /\ st.t 5 = .int .i64 i /\ st.H 0 = some (.box 27 (z07 t)) /\ (i <= t.kids.length) /\ (1 <= st.nx) /\ ((t.kids.take i).all (fun k => z2h t.kind k.kind) = true) /\ ((t.kids.take i).all (fun k => zaq k (d + 1)) = true) /\ (((t.kids.take i).map z5y).Nodup)) ?_ ?_); rotate_left; (rintro U st ⟨i, rfl, q1, q2, q5, qH0, qp0, qp1, qp2, qp3, qp4⟩); rotate_left
   ·(refine ⟨_, 0, rfl, ?_⟩); (simp (disch := omega) only [go_sem, Nat.reduceBEq, p1, p2, pH0, true_and, Int.natCast_zero, List.map_nil])
    simp only [List.all_nil, List.nodup_nil, and_true]
    omega
   by_cases hi : i < t.kids.length
   ·have hin := ih t.kids[i] (List.getElem_mem hi) (h4 _ (List.getElem_mem hi)) (d + 1) (by omega)
    have hn := zp9 t.kind t.kids[i].kind
    have hd1 : IntKind.i64.wrap ((d : Int) + 1) = ((d + 1 : Nat) : Int) := by rw [zx1 (by omega)]; rfl
    repeat' (first | refine zqj ?_ | ((first | refine zqh fun K J => ?_ | refine zqs (hn) ?_ | refine zqs (hin) ?_); (simp (disch := omega) only [go_sem, Nat.reduceBEq, ↓reduceIte, reduceCtorEq, Nat.reduceAdd, Nat.reduceLeDiff, q2, q5, qH0, z10])) | ((refine zqd _ rfl (fun hc => ?_) (fun hc => ?_)) <;> (first | (cases hc; done) | ((try simp only [z01] at hc); (try (exfalso; omega))))) | refine zqa ?_ | refine zqi ?_ | refine zqb ?_ | refine zqg ?_ | refine zqx ?_ | refine z23 ?_ | refine zqo ?_ | refine zqu (by (simp (disch := omega) only [go_sem]); rfl) rfl ?_ | (refine J _ ?_; clear J K) | (refine zqf (fun hb => ?_) (fun hb => ?_) <;> (have hb2 := hb; try simp only [z01] at hb2) <;> ((have F : (_ : Bool) = _ := hb2); (simp (disch := omega) only [go_sem, Nat.reduceBEq, ↓reduceIte, Nat.reduceAdd, Nat.reduceLeDiff, F, q1, hd1]); clear hb F; (try (exfalso; omega)))))
    ·exact z00 (by rw [z3r (f := fun k : T => zaq k (d + 1)) (k := i) hi (by assumption), Bool.false_and, Bool.and_false, Bool.and_false])
    ·(refine z3h (fun U st => ∃ (k : _) (m : Nat), U = i - k /\ st.t 1 = .int .i64 d /\ st.t 2 = .ptr 0 0 /\ st.t 5 = .int .i64 i /\ st.t 6 = .ptr m 0 /\ st.t 7 = .int .i64 k /\ st.H 0 = some (.box 27 (z07 t)) /\ st.H (m) = some (.box 27 (z07 t.kids[i])) /\ (k <= i) /\ (0 < m) /\ (m < st.nx) /\ (∀ j, (hj : j < k) -> (h : j < t.kids.length) -> z5y t.kids[j] ≠ z5y t.kids[i])) ?_ ?_); rotate_left; (rintro U st ⟨k, m, rfl, r1, r2, r5, r6, r7, rH0, rHm, rp0, rp1, rp2, rp3⟩); rotate_left
     ·(refine ⟨_, 0, st.nx, rfl, ?_⟩); (simp (disch := omega) only [go_sem, Nat.reduceBEq, q1, q2, q5, qH0, true_and, Int.natCast_add, Int.natCast_one, Int.natCast_zero])
      exact ⟨by omega, by omega, fun j hj => by omega⟩
     by_cases O : k < i
     ·repeat' (first | refine zqj ?_ | ((first | refine zqh fun K J => ?_ | refine zqe (by decide +kernel) fun K J => ?_ | refine zqr fun K J => ?_); (simp (disch := omega) only [go_sem, Nat.reduceBEq, ↓reduceIte, reduceCtorEq, Nat.reduceAdd, r2, r5, r6, r7, rH0, rHm, z10])) | ((first | refine zqd _ rfl (fun hc => ?_) (fun hc => ?_) | refine zqm _ rfl (fun hc => ?_) (fun hc => ?_)) <;> (first | (cases hc; done) | ((try simp only [z01] at hc); (try (exfalso; omega))))) | refine zqa ?_ | refine zqb ?_ | refine zqk ?_ | refine zqn ?_ | refine zqv ?_ | refine zqx ?_ | refine zqy ?_ | refine z23 ?_ | refine zqo ?_ | refine zqu (by (simp (disch := omega) only [go_sem]); rfl) rfl ?_ | (refine J _ ?_; clear J K) | (refine zqf (fun hb => ?_) (fun hb => ?_) <;> (have hb2 := hb; try simp only [z01] at hb2) <;> ((first | have F := eq_false hb2 | have F := eq_true hb2); (simp (disch := omega) only [go_sem, Nat.reduceBEq, ↓reduceIte, reduceCtorEq, Nat.reduceAdd, F, r2, r6, r7, rH0, rHm, z10]); clear hb F; (try (exfalso; omega)))))
      ·refine z00 ?_
       have hno := zhg (f := z5y) (l := t.kids) (j := k) (k := i) (by omega) hi (by unfold z5y; rw [‹t.kids[k].kind = t.kids[i].kind›, ‹t.kids[k].label = t.kids[i].label›])
       rw [decide_eq_false hno, Bool.and_false, Bool.and_false, Bool.and_false]
      ·(refine Exists.intro _ (And.intro ?_ ⟨k + 1, m, rfl, ?_⟩)); rotate_left; (simp (disch := omega) only [go_sem, Nat.reduceBEq, r1, r2, r5, r6, r7, rH0, rHm, true_and, Int.natCast_add, Int.natCast_one]); rotate_left
       ·omega
       ·refine ⟨by omega, by omega, by omega, fun j hj h => ?_⟩
        by_cases e : j = k
        ·subst e; exact fun h => absurd (congrArg Prod.snd h) (by assumption)
        ·exact rp3 j (by omega) h
      ·(refine Exists.intro _ (And.intro ?_ ⟨k + 1, m, rfl, ?_⟩)); rotate_left; (simp (disch := omega) only [go_sem, Nat.reduceBEq, r1, r2, r5, r6, r7, rH0, rHm, true_and, Int.natCast_add, Int.natCast_one]); rotate_left
       ·omega
       ·refine ⟨by omega, by omega, by omega, fun j hj h => ?_⟩
        by_cases e : j = k
        ·subst e; exact fun h => absurd (congrArg Prod.fst h) (by assumption)
        ·exact rp3 j (by omega) h
     ·repeat' (first | refine zqj ?_ | ((first | refine zqh fun K J => ?_ | refine zqr fun K J => ?_); (simp (disch := omega) only [go_sem, Nat.reduceBEq, ↓reduceIte, r5, r7])) | ((refine zqd _ rfl (fun hc => ?_) (fun hc => ?_)) <;> (((try simp only [z01] at hc); (try (exfalso; omega))))) | refine zqc ?_ | refine zqv ?_ | refine zqy ?_ | refine zqz ?_ | refine zqp ?_ | (refine J _ ?_; clear J K))
      (refine Exists.intro _ (And.intro ?_ ⟨i + 1, rfl, ?_⟩)); rotate_left; (simp (disch := omega) only [go_sem, Nat.reduceBEq, true_and, Int.natCast_add, Int.natCast_one, r1, r2, r5, rH0]); rotate_left
      ·omega
      ·exact ⟨by omega, by omega, z2f hi qp2 (by assumption), z2f hi qp3 (by assumption), zbu hi qp4 (fun j hj => rp3 j (by omega) (by omega))⟩
    ·exact z00 (by rw [z3r (f := fun k : T => z2h t.kind k.kind) (k := i) hi (by assumption), Bool.false_and, Bool.and_false])
   ·skip
    repeat' (first | refine zqj ?_ | ((refine zqh fun K J => ?_); (simp (disch := omega) only [go_sem, Nat.reduceBEq, ↓reduceIte, reduceCtorEq, Nat.reduceAdd, q2, q5, qH0, z10])) | ((refine zqd _ rfl (fun hc => ?_) (fun hc => ?_)) <;> (((try simp only [z01] at hc); (try (exfalso; omega))))) | refine zqc ?_ | refine zqn ?_ | refine zqv ?_ | refine zqz ?_ | refine zqp ?_ | refine zqu (by (simp (disch := omega) only [go_sem]); rfl) rfl ?_ | (refine J _ ?_; clear J K))
    refine z00 ?_
    rw [z2l (by omega) qp2, z2l (by omega) qp3]
    rw [List.take_of_length_le (by omega)] at qp4
    rw [decide_eq_true qp4]; rfl
theorem zgp (t : T) (hs : szB t = true) (hc : cntT t <= 1000000000) : PC Tryz.prog 156 [z25 t] (.bool (zis t)) := by
 have c1 := zpb t hs 0 (by omega)
 have c2 := zpa t hs hc
 refine z1y 1 (by simp only [pureD.pureL, z05, Bool.and_self]) rfl (z1v [] Tryz.func156 rfl (by decide +kernel) z0i (by decide +kernel) (by simp [Tryz.ntmps156]) ?_)
 show awp _ _ (Code.seq _ _) _ _
 unfold zis
 have hz : ((0 : Nat) : Int) = 0 := rfl
 rw [hz] at c1
 repeat' (first | ((first | refine zqh fun K J => ?_ | refine zqs (c1) ?_ | refine zqs (c2) ?_); (simp (disch := omega) only [go_sem, Nat.reduceBEq, ↓reduceIte, Nat.reduceAdd, Nat.reduceLeDiff])) | refine zqn ?_ | refine zqu (by (simp (disch := omega) only [go_sem]); rfl) rfl ?_ | (refine J _ ?_; clear J K) | (refine zqf (fun hb => ?_) (fun hb => ?_) <;> (have hb2 := hb; try simp only [z01] at hb2) <;> ((have F : (_ : Bool) = _ := hb2); (simp (disch := omega) only [go_sem, Nat.reduceBEq, ↓reduceIte, Nat.reduceAdd, Nat.reduceLeDiff, hb]); clear hb F; (try (exfalso; omega)))))
 ·refine z00 ?_
  rw [‹zaq t 0 = true›, Bool.true_and, decide_eq_decide]; omega
 ·exact z00 (by rw [‹zaq t 0 = false›]; rfl)
namespace Tr
theorem zba (l : List Wd) (w : Wd) : zos (l ++ [w]) = zos l ++ b1 32 ++ zz8 w.text := by unfold zos; rw [List.foldl_append]; rfl
theorem z4r (a b : ByteArray) : (a ++ b).size = a.size + b.size := ByteArray.size_append
theorem zyt (s : ByteArray) : (zz8 s).size <= s.size + 1 := by
 unfold zz8
 split
 ·rw [z4r]; show (b1 92).size + _ <= _; rw [show (b1 92).size = 1 from rfl]; omega
 ·omega
theorem zkk {l : List Wd} {m : Nat} (h : ∀ w ∈ l, w.text.size <= m) : (zos l).size <= l.length * (m + 2) := by
 have key : ∀ (n : Nat), n <= l.length -> (zos (l.take n)).size <= n * (m + 2) := fun n => by
  induction n with
  | zero => intro _; show ByteArray.empty.size <= _; simp
  | succ n ih =>
   intro hn
   rw [List.take_succ_eq_append_getElem (by omega), zba, z4r, z4r]
   have h1 := ih (by omega)
   have h2 := zyt l[n].text
   have h3 := h _ (List.getElem_mem (l := l) (n := n) (by omega))
   have h4 : (b1 32).size = 1 := rfl
   rw [Nat.add_mul]; omega
 have := key l.length (Nat.le_refl _)
 rwa [List.take_length] at this
theorem zf1 : ∀ n, (twoX n).size = 2 * n
 | 0 => rfl
 | n + 1 => by rw [twoX, z4r, zf1 n]; show _ + 2 = _; omega
theorem zgq {t : T} (h : ze3 t = true) : t.kind = 0 \/ ((0 < t.kind /\ t.kind <= 7) /\ zl7 t.head = true /\ zl7 t.words = true) := by
 unfold ze3 at h
 split at h
 ·exact .inl (by assumption)
 ·simp only [Bool.and_eq_true, decide_eq_true_eq] at h
  exact .inr ⟨h.1, h.2.2.1, h.2.2.2⟩
theorem zvs {s : ByteArray} (h : 0 < (bl s).length) (h2 : (((bl s)[0]'h).toNat : Int) = 124 \/ (((bl s)[0]'h).toNat : Int) = 92) : zz8 s = b1 92 ++ s := by
 have e : (bl s).headD 0 = (bl s)[0]'h := (zo1 (s := s) h).symm
 unfold zz8
 rw [e, if_pos]
 rcases h2 with h2 | h2
 ·exact .inl (UInt8.toNat.inj (by show _ = 124; omega))
 ·exact .inr (UInt8.toNat.inj (by show _ = 92; omega))
theorem esc_not {s : ByteArray} (h : 0 < (bl s).length) (h1 : ¬ (((bl s)[0]'h).toNat : Int) = 124) (h2 : ¬ (((bl s)[0]'h).toNat : Int) = 92) : zz8 s = s := by
 have e : (bl s).headD 0 = (bl s)[0]'h := (zo1 (s := s) h).symm
 unfold zz8
 rw [e, if_neg]
 rintro (g | g)
 ·rw [g] at h1; exact h1 rfl
 ·rw [g] at h2; exact h2 rfl
end Tr
theorem zgr (l : List Wd) (hl : l.length <= 1000000) (hs : ∀ w ∈ l, 1 <= w.text.size /\ w.text.size <= 1000000) : PC Tryz.prog 320 [z0s l] (.str (zos l)) := by
 refine z1y 1 (by simp only [pureD.pureL, z13, Bool.and_self]) rfl (z1v [] Tryz.func320 rfl (by decide +kernel) z0i (by decide +kernel) (by simp [Tryz.ntmps320]) ?_)
 show awp _ _ (Code.seq _ _) _ _
 repeat' (first | refine zqj ?_ | ((refine zqh fun K J => ?_); (simp (disch := omega) only [go_sem, z0s])) | refine zqa ?_ | (refine J _ ?_; clear J K))
 (refine z3h (fun U st => ∃ (k : _), U = l.length - k /\ st.t 0 = z0s l /\ st.t 3 = .str (zos (l.take k)) /\ st.t 4 = .int .i64 k /\ (k <= l.length)) ?_ ?_); rotate_left; (rintro U st ⟨k, rfl, q0, q3, q4, qp0⟩); rotate_left
 ·(refine ⟨_, 0, rfl, ?_⟩); (simp (disch := omega) only [go_sem, Nat.reduceBEq, true_and, and_true, and_self, Int.natCast_zero, z0s])
  try rfl
 by_cases O : k < l.length
 ·have hw := hs _ (List.getElem_mem O)
  have htk := List.take_succ_eq_append_getElem O
  have hsz : (zos (l.take k)).size <= 1000000 * 1000002 := by
   have h1 := zkk (l := l.take k) (m := 1000000) fun w hw => (hs w (List.mem_of_mem_take hw)).2
   have h2 : (l.take k).length <= 1000000 := by rw [List.length_take]; omega
   exact Nat.le_trans h1 (Nat.mul_le_mul_right _ h2)
  have hz : Int.toNat 0 = 0 := rfl
  have e92 : (#[92] : Array UInt8).size = 1 := rfl
  have e32 : (#[32] : Array UInt8).size = 1 := rfl
  have hbl := z18 l[k].text
  have hpos : 0 < (bl l[k].text).length := by omega
  repeat' (first | refine zqj ?_ | ((first | refine zqh fun K J => ?_ | refine zqr fun K J => ?_); (simp (disch := omega) only [go_sem, Nat.reduceBEq, ↓reduceIte, reduceCtorEq, Nat.reduceAdd, Nat.reduceLeDiff, Int.reduceLE, q0, q3, q4, z0s, zdi, hz, z4r, e92, e32])) | ((refine zqd _ rfl (fun hc => ?_) (fun hc => ?_)) <;> (first | (cases hc; done) | ((try simp only [z01] at hc); (try (exfalso; omega))))) | refine zqa ?_ | refine zqb ?_ | refine zqv ?_ | refine zqy ?_ | (refine J _ ?_; clear J K) | (refine zqf (fun hb => ?_) (fun hb => ?_) <;> (have hb2 := hb; try simp only [z01] at hb2) <;> ((first | have F := eq_false hb2 | have F := eq_true hb2); (simp (disch := omega) only [go_sem, Nat.reduceBEq, ↓reduceIte, Int.reduceLE, F, zdi, hz]); clear hb F; (try (exfalso; omega)))))
  ·have he := zvs hpos (.inr (by assumption))
   (refine Exists.intro _ (And.intro ?_ ⟨k + 1, rfl, ?_⟩)); rotate_left; (simp (disch := omega) only [go_sem, Nat.reduceBEq, q0, q3, q4, true_and, Int.natCast_add, Int.natCast_one, htk, zba, he]); rotate_left
   ·omega
   ·exact ⟨rfl, by omega⟩
  ·have he := esc_not hpos (by assumption) (by assumption)
   (refine Exists.intro _ (And.intro ?_ ⟨k + 1, rfl, ?_⟩)); rotate_left; (simp (disch := omega) only [go_sem, Nat.reduceBEq, q0, q3, q4, true_and, Int.natCast_add, Int.natCast_one, htk, zba, he]); rotate_left
   ·omega
   ·exact ⟨rfl, by omega⟩
  ·have he := zvs hpos (.inl (by assumption))
   (refine Exists.intro _ (And.intro ?_ ⟨k + 1, rfl, ?_⟩)); rotate_left; (simp (disch := omega) only [go_sem, Nat.reduceBEq, q0, q3, q4, true_and, Int.natCast_add, Int.natCast_one, htk, zba, he]); rotate_left
   ·omega
   ·exact ⟨rfl, by omega⟩
 ·repeat' (first | refine zqj ?_ | ((refine zqh fun K J => ?_); (simp (disch := omega) only [go_sem, Nat.reduceBEq, ↓reduceIte, q0, q3, q4, z0s])) | ((refine zqd _ rfl (fun hc => ?_) (fun hc => ?_)) <;> (((try simp only [z01] at hc); (try (exfalso; omega))))) | refine zqc ?_ | refine zqn ?_ | refine zqv ?_ | refine zqz ?_ | refine zqp ?_ | refine zqu (by (simp (disch := omega) only [go_sem]); rfl) rfl ?_ | (refine J _ ?_; clear J K))
  have hk2 : k = l.length := by omega
  subst hk2
  rw [List.take_length]
  exact z09 rfl (Le.refl _)
def nmsD : List D := nameL.map .str
theorem zvt : PC Tryz.prog 319 [] (.rsl true 1 nmsD) := by
 refine z1y 2 rfl rfl (z1v [] Tryz.func319 rfl (by decide +kernel) z0i (by decide +kernel) (by simp [Tryz.ntmps319]) ?_)
 show awp _ _ (Code.seq _ _) _ _
 repeat' (first | ((refine zqh fun K J => ?_); (simp (disch := omega) only [go_sem, Nat.reduceBEq, ↓reduceIte, reduceCtorEq, Nat.reduceAdd, Nat.reduceLeDiff])) | refine zqn ?_ | refine zqu (by (simp (disch := omega) only [go_sem]); rfl) rfl ?_ | (refine J _ ?_; clear J K))
 exact z09 rfl (Le.refl _)
theorem nms_at {k : Int} (h : 0 <= k /\ k < 8) : zvz nmsD k = some (.str (zq1 k)) := by
 rcases zvf h with rfl | rfl | rfl | rfl | rfl | rfl | rfl | rfl <;> rfl
theorem zkl (k : Int) : (zq1 k).size <= 9 := by
 unfold zq1
 split
 ·rename_i h
  rcases zvf h with rfl | rfl | rfl | rfl | rfl | rfl | rfl | rfl <;> decide
 ·decide
namespace Tr
theorem znx {l : List Wd} (h : zl7 l = true) : ∀ w ∈ l, 1 <= w.text.size /\ w.text.size <= 1000000 := fun w hw => by
 unfold zl7 at h
 simp only [Bool.and_eq_true, decide_eq_true_eq, List.all_eq_true] at h
 have := h.2 w hw
 unfold z87 at this
 simp only [Bool.and_eq_true, decide_eq_true_eq] at this
 omega
theorem zde {l : List Wd} (hl : l.length <= 1000000) (h : ∀ w ∈ l, w.text.size <= 1000000) : (zos l).size <= 1000002000000 := by
 have := zkk h
 exact Nat.le_trans this (Nat.mul_le_mul_right _ hl)
theorem zr1 {t : T} (hs : szB t = true) (d : Nat) : (zcw t d).size <= 2000010000000 := by
 obtain ⟨h0, h1, g1, h2, g2, h3, _⟩ := (z2e t).1 hs
 have a1 := zde h1 g1
 have a2 := zde h2 g2
 have a3 := zkl t.kind
 have a4 : (b1 32).size = 1 := rfl
 have a5 : (b1 58).size = 1 := rfl
 have a6 : (⟨#[32, 124]⟩ : ByteArray).size = 2 := rfl
 unfold zcw
 split
 ·show ByteArray.empty.size <= _; decide
 ·rename_i h
  have a7 := zf1 d
  simp only
  split <;> split <;> split <;> simp only [z4r] <;> omega
end Tr
theorem zvu (t : T) (hs : szB t = true) (d : Nat) (V : d <= 100) : PC Tryz.prog 299 [z25 t, .int .i64 d] (.str (zcw t d)) := by
 obtain ⟨h0, h1, g1, h2, g2, h3, _⟩ := (z2e t).1 hs
 have c1 := zg8 t hs
 have c2 := zvt
 refine z1y 2 (by simp only [pureD.pureL, z05, pureD, Bool.and_self]) rfl (z1v [] Tryz.func299 rfl (by decide +kernel) z0i (by decide +kernel) (by simp [Tryz.ntmps299]) ?_)
 show awp _ _ (Code.seq _ _) _ _
 by_cases hb : ze3 t = false \/ 8 < d
 ·have hx : zcw t d = ByteArray.empty := by unfold zcw; rw [if_pos hb]
  rw [hx]
  rcases hb with hb | hb
  ·rw [hb] at c1
   repeat' (first | refine zqj ?_ | ((first | refine z03 (N := 3) rfl fun K J => ?_ | refine zqs (c1) ?_); (simp (disch := omega) only [go_sem, Nat.reduceBEq, ↓reduceIte])) | ((refine zqd _ rfl (fun hc => ?_) (fun hc => ?_)) <;> (first | (cases hc; done) | ((try simp only [] at hc); (try (exfalso; omega))))) | refine zqg ?_ | refine zqu (by (simp (disch := omega) only [go_sem]); rfl) rfl ?_ | (refine J _ ?_; clear J K) | (refine zqf (fun hb => ?_) (fun hb => ?_) <;> (have hb2 := hb; try simp only [z01] at hb2) <;> ((first | have F := eq_false hb2 | have F := eq_true hb2); (simp (disch := omega) only [go_sem, Nat.reduceBEq, ↓reduceIte, Nat.reduceAdd, Nat.reduceLeDiff, F]); clear hb F; (try (exfalso; omega)))))
   all_goals first
    | exact z09 rfl (Le.refl _)
    | (exfalso; omega)
  ·repeat' (first | refine zqj ?_ | ((refine z03 (N := 3) rfl fun K J => ?_); (simp (disch := omega) only [go_sem, Nat.reduceBEq, ↓reduceIte])) | ((refine zqd _ rfl (fun hc => ?_) (fun hc => ?_)) <;> (first | (cases hc; done) | ((try simp only [] at hc); (try (exfalso; omega))))) | refine zqg ?_ | refine zqu (by (simp (disch := omega) only [go_sem]); rfl) rfl ?_ | (refine J _ ?_; clear J K) | (refine zqf (fun hb => ?_) (fun hb => ?_) <;> (have hb2 := hb; try simp only [z01] at hb2) <;> ((first | have F := eq_false hb2 | have F := eq_true hb2); (simp (disch := omega) only [go_sem, Nat.reduceBEq, ↓reduceIte, Nat.reduceAdd, Nat.reduceLeDiff, F]); clear hb F; (try (exfalso; omega)))))
   all_goals first
    | exact z09 rfl (Le.refl _)
    | (exfalso; omega)
 ·simp only [not_or, Bool.not_eq_false] at hb
  obtain ⟨hb, hd8⟩ := hb
  rw [hb] at c1
  repeat' (first | refine zqj ?_ | ((first | refine z03 (N := 3) rfl fun K J => ?_ | refine zqs (c1) ?_); (simp (disch := omega) only [go_sem, Nat.reduceBEq, ↓reduceIte])) | ((refine zqd _ rfl (fun hc => ?_) (fun hc => ?_)) <;> (first | (cases hc; done) | ((try simp only [] at hc); (try (exfalso; omega))))) | refine zqb ?_ | (refine J _ ?_; clear J K) | (refine zqf (fun hb => ?_) (fun hb => ?_) <;> (have hb2 := hb; try simp only [z01] at hb2) <;> ((first | have F := eq_false hb2 | have F := eq_true hb2); (simp (disch := omega) only [go_sem, Nat.reduceBEq, ↓reduceIte, Nat.reduceAdd, Nat.reduceLeDiff, F]); clear hb F; (try (exfalso; omega)))))
  (refine z1o (fun st => st.t 1 = .int .i64 d /\ st.t 2 = .ptr 0 0 /\ st.H 0 = some (.box 27 (z07 t)) /\ st.nx = 1) ?_ ?_); rotate_left; (rintro st ⟨p1, p2, pH0, pnx⟩); rotate_left
  ·(simp (disch := omega) only [go_sem, Nat.reduceBEq, and_self])
  repeat' (first | refine zqj ?_ | ((refine zqh fun K J => ?_); (simp (disch := omega) only [go_sem, pnx])) | refine zqa ?_ | (refine J _ ?_; clear J K))
  (refine z3h (fun U st => ∃ (i : _), U = d - i /\ st.t 1 = .int .i64 d /\ st.t 2 = .ptr 0 0 /\ st.t 5 = .str (twoX i) /\ st.t 6 = .int .i64 i /\ st.H 0 = some (.box 27 (z07 t)) /\ st.nx = 1 /\ (i <= d)) ?_ ?_); rotate_left; (rintro U st ⟨i, rfl, q1, q2, q5, q6, qH0, qnx, qp0⟩); rotate_left
  ·(refine ⟨_, 0, rfl, ?_⟩); (simp (disch := omega) only [go_sem, Nat.reduceBEq, p1, p2, pH0, true_and, and_true, and_self, Int.natCast_zero])
   rfl
  have h2x := zf1 i
  have e22 : (#[32, 32] : Array UInt8).size = 2 := rfl
  by_cases hi : i < d
  ·repeat' (first | refine zqj ?_ | ((first | refine zqh fun K J => ?_ | refine zqr fun K J => ?_); (simp (disch := omega) only [go_sem, Nat.reduceBEq, ↓reduceIte, Nat.reduceLeDiff, q1, q5, q6, qnx, e22])) | ((refine zqd _ rfl (fun hc => ?_) (fun hc => ?_)) <;> (((try simp only [z01] at hc); (try (exfalso; omega))))) | refine zqa ?_ | refine zqb ?_ | refine zqv ?_ | refine zqy ?_ | (refine J _ ?_; clear J K))
   (refine Exists.intro _ (And.intro ?_ ⟨i + 1, rfl, ?_⟩)); rotate_left; (simp (disch := omega) only [go_sem, Nat.reduceBEq, q1, q2, q5, q6, qH0, true_and, Int.natCast_add, Int.natCast_one]); rotate_left
   ·omega
   ·exact ⟨rfl, by omega⟩
  ·have hk8 : 0 <= t.kind /\ t.kind < 8 := by
    rcases zgq hb with h | h <;> omega
   have hnm := nms_at hk8
   have hns := zkl t.kind
   have hie : i = d := by omega
   subst hie
   have hnb : ¬ (ze3 t = false \/ 8 < i) := by rw [hb]; simp; omega
   have e32 : (#[32] : Array UInt8).size = 1 := rfl
   have e58 : (#[58] : Array UInt8).size = 1 := rfl
   have e2 : (#[32, 124] : Array UInt8).size = 2 := rfl
   by_cases O : t.kind = 0
   ·have hz : t.head.length = 0 /\ t.words.length = 0 := by
     unfold ze3 at hb
     rw [if_pos O] at hb
     simp only [z01] at hb
     exact ⟨hb.2.1, hb.2.2⟩
    have hlx : zcw t i = twoX i ++ zq1 t.kind := by
     unfold zcw
     rw [if_neg hnb]
     simp only [if_pos O, hz.1, hz.2, Nat.lt_irrefl, if_false]
    rw [hlx, O]
    rw [O] at hnm hns
    repeat' (first | refine zqj ?_ | ((first | refine zqh fun K J => ?_ | refine zqe (by decide +kernel) fun K J => ?_ | refine zqt (c2) ?_); (simp (disch := omega) only [go_sem, Nat.reduceBEq, ↓reduceIte, reduceCtorEq, Nat.reduceAdd, q1, q2, q5, q6, qH0, qnx, z0s, hnm, O, hz.1, hz.2])) | ((refine zqd _ rfl (fun hc => ?_) (fun hc => ?_)) <;> (first | (cases hc; done) | ((try simp only [z01] at hc); (try (exfalso; omega))))) | refine zqb ?_ | refine zqc ?_ | refine zqn ?_ | refine zqv ?_ | refine zqz ?_ | refine zqp ?_ | refine zqu (by (simp (disch := omega) only [go_sem]); rfl) rfl ?_ | (refine J _ ?_; clear J K))
    exact z09 rfl (Le.refl _)
   ·obtain ⟨_, hr1, hr2⟩ := (zgq hb).resolve_left O
    have r1 := zgr t.head h1 (znx hr1)
    have r2 := zgr t.words h2 (znx hr2)
    have s1 := zde h1 g1
    have s2 := zde h2 g2
    have hlx : zcw t i = (let s := twoX i ++ zq1 t.kind ++ b1 32 ++ t.label; let s := if 0 < t.head.length then s ++ b1 58 ++ zos t.head else s; if 0 < t.words.length then s ++ ⟨#[32, 124]⟩ ++ zos t.words else s) := by
     unfold zcw
     rw [if_neg hnb]
     simp only [if_neg O]
    rw [hlx]
    simp only
    by_cases hh : 0 < t.head.length
    ·rw [if_pos hh]
     by_cases hw : 0 < t.words.length
     ·rw [if_pos hw]
      repeat' (first | refine zqj ?_ | ((first | refine zqh fun K J => ?_ | refine zqe (by decide +kernel) fun K J => ?_ | refine zqt (c2) ?_ | refine zqs (r1) ?_ | refine zqs (r2) ?_); (simp (disch := omega) only [go_sem, Nat.reduceBEq, ↓reduceIte, reduceCtorEq, Nat.reduceAdd, Nat.reduceLeDiff, q1, q2, q5, q6, qH0, qnx, z0s, hnm, z4r, e32, e58, e2])) | ((refine zqd _ rfl (fun hc => ?_) (fun hc => ?_)) <;> (((try simp only [z01] at hc); (try (exfalso; omega))))) | refine zqc ?_ | refine zqn ?_ | refine zqv ?_ | refine zqz ?_ | refine zqp ?_ | refine zqu (by (simp (disch := omega) only [go_sem]); rfl) rfl ?_ | (refine J _ ?_; clear J K))
      exact z09 rfl (Le.refl _)
     ·rw [if_neg hw]
      repeat' (first | refine zqj ?_ | ((first | refine zqh fun K J => ?_ | refine zqe (by decide +kernel) fun K J => ?_ | refine zqt (c2) ?_ | refine zqs (r1) ?_); (simp (disch := omega) only [go_sem, Nat.reduceBEq, ↓reduceIte, reduceCtorEq, Nat.reduceAdd, Nat.reduceLeDiff, q1, q2, q5, q6, qH0, qnx, z0s, hnm, z4r, e32, e58])) | ((refine zqd _ rfl (fun hc => ?_) (fun hc => ?_)) <;> (((try simp only [z01] at hc); (try (exfalso; omega))))) | refine zqb ?_ | refine zqc ?_ | refine zqn ?_ | refine zqv ?_ | refine zqz ?_ | refine zqp ?_ | refine zqu (by (simp (disch := omega) only [go_sem]); rfl) rfl ?_ | (refine J _ ?_; clear J K))
      exact z09 rfl (Le.refl _)
    ·rw [if_neg hh]
     by_cases hw : 0 < t.words.length
     ·rw [if_pos hw]
      repeat' (first | refine zqj ?_ | ((first | refine zqh fun K J => ?_ | refine zqe (by decide +kernel) fun K J => ?_ | refine zqt (c2) ?_ | refine zqs (r2) ?_); (simp (disch := omega) only [go_sem, Nat.reduceBEq, ↓reduceIte, reduceCtorEq, Nat.reduceAdd, Nat.reduceLeDiff, q1, q2, q5, q6, qH0, qnx, z0s, hnm, z4r, e32, e2])) | ((refine zqd _ rfl (fun hc => ?_) (fun hc => ?_)) <;> (((try simp only [z01] at hc); (try (exfalso; omega))))) | refine zqb ?_ | refine zqc ?_ | refine zqn ?_ | refine zqv ?_ | refine zqz ?_ | refine zqp ?_ | refine zqu (by (simp (disch := omega) only [go_sem]); rfl) rfl ?_ | (refine J _ ?_; clear J K))
      exact z09 rfl (Le.refl _)
     ·rw [if_neg hw]
      repeat' (first | refine zqj ?_ | ((first | refine zqh fun K J => ?_ | refine zqe (by decide +kernel) fun K J => ?_ | refine zqt (c2) ?_); (simp (disch := omega) only [go_sem, Nat.reduceBEq, ↓reduceIte, reduceCtorEq, Nat.reduceAdd, Nat.reduceLeDiff, q1, q2, q5, q6, qH0, qnx, z0s, hnm, z4r, e32])) | ((refine zqd _ rfl (fun hc => ?_) (fun hc => ?_)) <;> (((try simp only [z01] at hc); (try (exfalso; omega))))) | refine zqb ?_ | refine zqc ?_ | refine zqn ?_ | refine zqv ?_ | refine zqz ?_ | refine zqp ?_ | refine zqu (by (simp (disch := omega) only [go_sem]); rfl) rfl ?_ | (refine J _ ?_; clear J K))
      exact z09 rfl (Le.refl _)
namespace Tr
theorem zf2 : ∀ t : T, ∀ d : Nat, (z49 t d).length = cntT t := by
 refine z55 fun t ih d => ?_
 rw [ze4, List.length_cons, z6m]
 have key : ∀ l : List T, (∀ k ∈ l, ∀ d : Nat, (z49 k d).length = cntT k) -> (l.flatMap fun k => z49 k (d + 1)).length = (l.flatMap z0d).length := fun l => by
  induction l with
  | nil => intro _; rfl
  | cons k l ih2 =>
   intro h
   rw [List.flatMap_cons, List.flatMap_cons, List.length_append, List.length_append, h k (by simp), ih2 fun q hq => h q (List.mem_cons_of_mem _ hq)]; rfl
 rw [key t.kids ih]; omega
theorem zr2 : ∀ t : T, szB t = true -> ∀ d : Nat, ∀ s ∈ z49 t d, s.size <= 2000010000000 := by
 refine z55 fun t ih hs d s h => ?_
 rw [ze4, List.mem_cons] at h
 rcases h with rfl | h
 ·exact zr1 hs d
 ·obtain ⟨k, O, h⟩ := List.mem_flatMap.1 h
  exact ih k O ((zmg hs).2 k O) (d + 1) s h
theorem zgs (l : List ByteArray) (w : ByteArray) : zit (l ++ [w]) = zit l ++ w ++ b1 10 := by unfold zit; rw [List.foldl_append]; rfl
theorem zr3 {l : List ByteArray} {m : Nat} (h : ∀ s ∈ l, s.size <= m) : ∀ n, n <= l.length -> (zit (l.take n)).size <= n * (m + 1) := fun n => by
 induction n with
 | zero => intro _; show ByteArray.empty.size <= _; simp
 | succ n ih =>
  intro hn
  rw [List.take_succ_eq_append_getElem (by omega), zgs, z4r, z4r]
  have h1 := ih (by omega)
  have h3 := h _ (List.getElem_mem (l := l) (n := n) (by omega))
  have h4 : (b1 10).size = 1 := rfl
  rw [Nat.add_mul]; omega
end Tr
theorem zr4 : ∀ t : T, szB t = true -> cntT t <= 1000000 -> ∀ d : Nat, d + depT t <= 100 -> PC Tryz.prog 247 [z25 t, .int .i64 d] (z3b (z49 t d)) := by
 refine z55 fun t ih hs hc d V => ?_
 obtain ⟨h0, h1, g1, h2, g2, h3, h4⟩ := (z2e t).1 hs
 have hce := z6m t
 have c1 := zvu t hs d (by omega)
 rw [ze4]
 refine z1y 2 (by simp only [pureD.pureL, z05, pureD, Bool.and_self]) (z31 _) (z1v [10] Tryz.func247 rfl (by decide +kernel) z0i (by decide +kernel) (by simp [Tryz.ntmps247]) ?_)
 show awp _ _ (Code.seq _ _) _ _
 repeat' (first | refine zqj ?_ | ((first | refine zqh fun K J => ?_ | refine zqs (c1) ?_); (simp (disch := omega) only [go_sem, Nat.reduceBEq, ↓reduceIte, reduceCtorEq, Nat.reduceAdd, Nat.reduceLeDiff])) | refine zqa ?_ | (refine J _ ?_; clear J K))
 (refine z3h (fun U st => ∃ (i : _), U = t.kids.length - i /\ st.t 1 = .int .i64 d /\ st.t 2 = .ptr 0 0 /\ st.t 5 = .osl 1 (1 + ((t.kids.take i).flatMap fun k => z49 k (d + 1)).length) /\ st.t 6 = .int .i64 i /\ st.H 0 = some (.box 27 (z07 t)) /\ st.H 1 = some (.row 9 (1 + ((t.kids.take i).flatMap fun k => z49 k (d + 1)).length) ((zcw t d :: (t.kids.take i).flatMap fun k => z49 k (d + 1)).map .str)) /\ (i <= t.kids.length) /\ (2 <= st.nx)) ?_ ?_); rotate_left; (rintro U st ⟨i, rfl, q1, q2, q5, q6, qH0, qH1, qp0, qp1⟩); rotate_left
 ·(refine ⟨_, 0, rfl, ?_⟩); (simp (disch := omega) only [go_sem, Nat.reduceBEq, Nat.reduceLeDiff, and_self, Int.natCast_zero, List.flatMap_nil, List.map_nil])
  try simp
 have hb := z3l t.kids (i + 1)
 have key : ∀ l : List T, (l.flatMap fun k => z49 k (d + 1)).length = (l.flatMap z0d).length := fun l => by
  induction l with
  | nil => rfl
  | cons k l ih2 => rw [List.flatMap_cons, List.flatMap_cons, List.length_append, List.length_append, zf2, ih2]; rfl
 have hb2 := key (t.kids.take i)
 have F := z3l t.kids i
 by_cases hi : i < t.kids.length
 ·have hkd := z4e (List.getElem_mem hi)
  have hin := ih t.kids[i] (List.getElem_mem hi) (h4 _ (List.getElem_mem hi)) (by have := za2 (List.getElem_mem hi); omega) (d + 1) (by omega)
  have hck := za2 (List.getElem_mem hi)
  have hil := zf2 t.kids[i] (d + 1)
  have htk : (t.kids.take (i + 1)).flatMap (fun k => z49 k (d + 1)) = (t.kids.take i).flatMap (fun k => z49 k (d + 1)) ++ z49 t.kids[i] (d + 1) := by
   rw [List.take_succ_eq_append_getElem hi, List.flatMap_append]; simp
  have hd1 : IntKind.i64.wrap ((d : Int) + 1) = ((d + 1 : Nat) : Int) := by rw [zx1 (by omega)]; rfl
  repeat' (first | refine zqj ?_ | ((first | refine zqh fun K J => ?_ | refine zqr fun K J => ?_ | refine zqs (hin) ?_); (simp (disch := omega) only [go_sem, Nat.reduceBEq, ↓reduceIte, reduceCtorEq, Nat.reduceAdd, Nat.reduceLT, q1, q2, q5, q6, qH0, qH1, z10, z3b, hd1])) | ((refine zqd _ rfl (fun hc => ?_) (fun hc => ?_)) <;> (((try simp only [z01] at hc); (try (exfalso; omega))))) | refine zqa ?_ | refine zqb ?_ | refine zqv ?_ | refine zqy ?_ | (refine J _ ?_; clear J K))
  (refine Exists.intro _ (And.intro ?_ ⟨i + 1, rfl, ?_⟩)); rotate_left; (simp (disch := omega) only [go_sem, Nat.reduceBEq, q1, q2, q5, q6, qH0, qH1, true_and, Int.natCast_add, Int.natCast_one, List.map_append, List.map_cons, htk, List.length_append, Nat.add_assoc]); rotate_left
  ·omega
  ·exact ⟨by omega, by omega⟩
 ·repeat' (first | refine zqj ?_ | ((refine zqh fun K J => ?_); (simp (disch := omega) only [go_sem, Nat.reduceBEq, ↓reduceIte, reduceCtorEq, Nat.reduceAdd, q2, q5, q6, qH0, z10])) | ((refine zqd _ rfl (fun hc => ?_) (fun hc => ?_)) <;> (((try simp only [z01] at hc); (try (exfalso; omega))))) | refine zqc ?_ | refine zqn ?_ | refine zqv ?_ | refine zqz ?_ | refine zqp ?_ | refine zqu (by (simp (disch := omega) only [go_sem]); rfl) rfl ?_ | (refine J _ ?_; clear J K))
  have hi2 : i = t.kids.length := by omega
  subst hi2
  rw [List.take_length] at qH1
  rw [List.take_length]
  exact z6u (ziu 0 qH1 z6o z83 (by simp; omega) (zh6 _))
theorem zr5 (t : T) (hs : szB t = true) (hc : cntT t <= 1000000) (V : depT t <= 100) (hb : zis t = true) : PC Tryz.prog 157 [z25 t] (z3b (z49 t 0)) := by
 have c1 := zgp t hs (by omega)
 have c2 := zr4 t hs hc 0 (by omega)
 have hz : ((0 : Nat) : Int) = 0 := rfl
 rw [hz] at c2
 rw [hb] at c1
 refine z1y 1 (by simp only [pureD.pureL, z05, Bool.and_self]) (z31 _) (z1v [] Tryz.func157 rfl (by decide +kernel) z0i (by decide +kernel) (by simp [Tryz.ntmps157]) ?_)
 show awp _ _ (Code.seq _ _) _ _
 repeat' (first | refine zqj ?_ | ((first | refine zqh fun K J => ?_ | refine zqs (c1) ?_ | refine zqs (c2) ?_); (simp (disch := omega) only [go_sem, Nat.reduceBEq, ↓reduceIte, Nat.reduceAdd, Nat.reduceLeDiff])) | ((refine zqd _ rfl (fun hc => ?_) (fun hc => ?_)) <;> (first | (cases hc; done) | ((try simp only [] at hc); (try (exfalso; omega))))) | refine zqb ?_ | refine zqn ?_ | refine zqu (by (simp (disch := omega) only [go_sem]); rfl) rfl ?_ | (refine J _ ?_; clear J K))
 exact z09 (z31 _) (Le.refl _)
theorem zvv (t : T) (hs : szB t = true) (hc : cntT t <= 1000000) (V : depT t <= 100) : PC Tryz.prog 80 [z25 t] (.tup [.str (zsj t).1, .int .i64 (zsj t).2]) := by
 have c1 := zgp t hs (by omega)
 refine z1y 3 (by simp only [pureD.pureL, z05, Bool.and_self]) rfl (z1v [] Tryz.func80 rfl (by decide +kernel) z0i (by decide +kernel) (by simp [Tryz.ntmps80]) ?_)
 show awp _ _ (Code.seq _ _) _ _
 rw [show Tryz.f80.results.toList = [.tmp 2, .tmp 3] from rfl]
 unfold zsj
 cases hb : zis t with
 | false =>
  rw [if_pos rfl]
  rw [hb] at c1
  repeat' (first | refine zqj ?_ | ((first | refine zqh fun K J => ?_ | refine zqs (c1) ?_); (simp (disch := omega) only [go_sem, Nat.reduceBEq, ↓reduceIte, Nat.reduceAdd, Nat.reduceLeDiff])) | ((refine zqd _ rfl (fun hc => ?_) (fun hc => ?_)) <;> (first | (cases hc; done) | ((try simp only [] at hc); (try (exfalso; omega))))) | refine zqg ?_ | refine zqu (by (simp (disch := omega) only [go_sem, Nat.reduceBEq]); rfl) rfl ?_ | (refine J _ ?_; clear J K))
  exact z09 rfl (Le.refl _)
 | true =>
  rw [if_neg (by simp)]
  have c2 := zr5 t hs hc V hb
  rw [hb] at c1
  have hll := zf2 t 0
  have hls := zr2 t hs 0
  generalize z49 t 0 = L at c2 hll hls ⊢
  repeat' (first | refine zqj ?_ | ((first | refine zqh fun K J => ?_ | refine zqs (c1) ?_ | refine zqs (c2) ?_); (simp (disch := omega) only [go_sem, Nat.reduceBEq, ↓reduceIte, Nat.reduceAdd, Nat.reduceLeDiff])) | ((refine zqd _ rfl (fun hc => ?_) (fun hc => ?_)) <;> (first | (cases hc; done) | ((try simp only [] at hc); (try (exfalso; omega))))) | refine zqa ?_ | refine zqb ?_ | (refine J _ ?_; clear J K))
  (refine z3h (fun U st => ∃ (k : _), U = L.length - k /\ st.t 4 = z3b L /\ st.t 5 = .str (zit (L.take k)) /\ st.t 6 = .int .i64 k /\ (k <= L.length)) ?_ ?_); rotate_left; (rintro U st ⟨k, rfl, q4, q5, q6, qp0⟩); rotate_left
  ·(refine ⟨_, 0, rfl, ?_⟩); (simp (disch := omega) only [go_sem, Nat.reduceBEq, true_and, and_true, and_self, Int.natCast_zero, z3b])
   try rfl
  have hsz := zr3 hls
  by_cases O : k < L.length
  ·have h1 := hsz k (by omega)
   have h2 := hls _ (List.getElem_mem O)
   have h3 : k * (2000010000000 + 1) <= 1000000 * (2000010000000 + 1) := Nat.mul_le_mul_right _ (by omega)
   have htk := List.take_succ_eq_append_getElem O
   have e10 : (#[10] : Array UInt8).size = 1 := rfl
   repeat' (first | refine zqj ?_ | ((first | refine zqh fun K J => ?_ | refine zqr fun K J => ?_); (simp (disch := omega) only [go_sem, Nat.reduceBEq, ↓reduceIte, reduceCtorEq, Nat.reduceAdd, Nat.reduceLeDiff, q4, q5, q6, z3b, z4r, e10])) | ((refine zqd _ rfl (fun hc => ?_) (fun hc => ?_)) <;> (((try simp only [z01] at hc); (try (exfalso; omega))))) | refine zqa ?_ | refine zqb ?_ | refine zqv ?_ | refine zqy ?_ | (refine J _ ?_; clear J K))
   (refine Exists.intro _ (And.intro ?_ ⟨k + 1, rfl, ?_⟩)); rotate_left; (simp (disch := omega) only [go_sem, Nat.reduceBEq, q4, q5, q6, true_and, Int.natCast_add, Int.natCast_one, htk, zgs]); rotate_left
   ·omega
   ·exact ⟨rfl, by omega⟩
  ·have hk2 : k = L.length := by omega
   subst hk2
   rw [List.take_length] at q5
   by_cases hbig : 16384 < (zit L).size
   ·rw [if_pos hbig]
    repeat' (first | refine zqj ?_ | ((refine zqh fun K J => ?_); (simp (disch := omega) only [go_sem, Nat.reduceBEq, ↓reduceIte, q4, q5, q6, z3b])) | ((refine zqd _ rfl (fun hc => ?_) (fun hc => ?_)) <;> (((try simp only [z01] at hc); (try (exfalso; omega))))) | refine zqg ?_ | refine zqc ?_ | refine zqv ?_ | refine zqz ?_ | refine zqp ?_ | refine zqu (by (simp (disch := omega) only [go_sem, Nat.reduceBEq]); rfl) rfl ?_ | (refine J _ ?_; clear J K))
    exact z09 rfl (Le.refl _)
   ·rw [if_neg hbig]
    repeat' (first | refine zqj ?_ | ((refine zqh fun K J => ?_); (simp (disch := omega) only [go_sem, Nat.reduceBEq, ↓reduceIte, q4, q5, q6, z3b])) | ((refine zqd _ rfl (fun hc => ?_) (fun hc => ?_)) <;> (((try simp only [z01] at hc); (try (exfalso; omega))))) | refine zqb ?_ | refine zqc ?_ | refine zqn ?_ | refine zqv ?_ | refine zqz ?_ | refine zqp ?_ | refine zqu (by (simp (disch := omega) only [go_sem, Nat.reduceBEq]); rfl) rfl ?_ | (refine J _ ?_; clear J K))
    exact z09 rfl (Le.refl _)
theorem z7l (n a b : Int) : PC Tryz.prog 74 [.int .i64 n, .int .i64 a, .int .i64 b] (.bool (inB n a b)) := by
 refine z1y 1 rfl rfl (z1v [] Tryz.func74 rfl (by decide +kernel) z0i (by decide +kernel) (by simp [Tryz.ntmps74]) ?_)
 show awp _ _ (Code.seq _ _) _ _
 repeat' (first | ((refine zqh fun K J => ?_); (simp (disch := omega) only [go_sem, Nat.reduceBEq, ↓reduceIte])) | refine zqn ?_ | refine zqu (by (simp (disch := omega) only [go_sem]); rfl) rfl ?_ | (refine J _ ?_; clear J K) | (refine zqf (fun hb => ?_) (fun hb => ?_) <;> (have hb2 := hb; try simp only [z01] at hb2) <;> ((first | have F := eq_false hb2 | have F := eq_true hb2); (simp (disch := omega) only [go_sem, Nat.reduceBEq, ↓reduceIte, F]); clear hb F; (try (exfalso; omega)))))
 all_goals first | exact z00 (decide_eq_true (by omega)).symm | exact z00 (decide_eq_false (by omega)).symm | exact z00 (decide_eq_decide.2 (by omega))
theorem zjo (a b : List Stp) (ha : a.length <= maxLen) (hb : b.length <= maxLen) : PC Tryz.prog 152 [z0a a, z0a b] (.bool (decide (a = b))) := by
 unfold maxLen at ha hb
 have heq : ∀ x y : Stp, (decide (x.kind = y.kind) && decide (x.label = y.label)) = decide (x = y) := fun x y => by
  obtain ⟨a, b⟩ := x; obtain ⟨a', b'⟩ := y
  rw [Bool.eq_iff_iff]; simp [Stp.mk.injEq]
 refine z1y 1 (by simp only [pureD.pureL, z1e, Bool.and_self]) rfl (z1v [] Tryz.func152 rfl (by decide +kernel) z0i (by decide +kernel) (by simp [Tryz.ntmps152]) ?_)
 show awp _ _ (Code.seq _ _) _ _
 repeat' (first | refine zqj ?_ | ((refine zqh fun K J => ?_); (simp (disch := omega) only [go_sem, Nat.reduceBEq, ↓reduceIte, z0a])) | ((refine zqd _ rfl (fun hc => ?_) (fun hc => ?_)) <;> (((try simp only [z01] at hc); (try (exfalso; omega))))) | refine zqa ?_ | refine zqb ?_ | refine zqg ?_ | refine zqu (by (simp (disch := omega) only [go_sem]); rfl) rfl ?_ | (refine J _ ?_; clear J K))
 ·exact z00 (decide_eq_false (fun h => by subst h; contradiction)).symm
 ·have hl : a.length = b.length := by omega
  (refine z3h (fun U st => ∃ (k : _), U = a.length - k /\ st.t 0 = z0a a /\ st.t 1 = z0a b /\ st.t 5 = .int .i64 k /\ (k <= a.length) /\ (a.take k = b.take k)) ?_ ?_); rotate_left; (rintro U st ⟨k, rfl, q0, q1, q5, qp0, qp1⟩); rotate_left
  ·(refine ⟨_, 0, rfl, ?_⟩); (simp (disch := omega) only [go_sem, Nat.reduceBEq, and_self, Int.natCast_zero, z0a])
   try simp
  repeat' (first | refine zqj ?_ | ((first | refine zqh fun K J => ?_ | refine zqe (by decide +kernel) fun K J => ?_ | refine zqr fun K J => ?_); (simp (disch := omega) only [go_sem, Nat.reduceBEq, ↓reduceIte, reduceCtorEq, Nat.reduceAdd, q0, q1, q5, z0a, heq])) | ((first | refine zqd _ rfl (fun hc => ?_) (fun hc => ?_) | refine zqm _ rfl (fun hc => ?_) (fun hc => ?_)) <;> (((try simp only [z01] at hc); (try (exfalso; omega))))) | refine zqa ?_ | refine zqb ?_ | refine zqc ?_ | refine zqk ?_ | refine zqn ?_ | refine zqv ?_ | refine zqx ?_ | refine zqy ?_ | refine zqz ?_ | refine z23 ?_ | refine zqp ?_ | refine zqo ?_ | refine zqu (by (simp (disch := omega) only [go_sem]); rfl) rfl ?_ | (refine J _ ?_; clear J K))
  ·exact z00 (decide_eq_false (zik (k := k) (by omega) hl (by assumption))).symm
  ·(refine Exists.intro _ (And.intro ?_ ⟨k + 1, rfl, ?_⟩)); rotate_left; (simp (disch := omega) only [go_sem, Nat.reduceBEq, q0, q1, q5, true_and, Int.natCast_add, Int.natCast_one, z0a]); rotate_left
   ·omega
   ·exact ⟨by omega, z5h (by omega) hl qp1 (by assumption)⟩
  ·exact z00 (decide_eq_true (z7d (by omega) hl qp1)).symm
theorem znh (a b : List ByteArray) (ha : a.length <= maxLen) (hb : b.length <= maxLen) : PC Tryz.prog 153 [z3b a, z3b b] (.bool (decide (a = b))) := by
 unfold maxLen at ha hb
 have heq : ∀ x y : Stp, (decide (x.kind = y.kind) && decide (x.label = y.label)) = decide (x = y) := fun x y => by
  obtain ⟨a, b⟩ := x; obtain ⟨a', b'⟩ := y
  rw [Bool.eq_iff_iff]; simp [Stp.mk.injEq]
 refine z1y 1 (by simp only [pureD.pureL, z31, Bool.and_self]) rfl (z1v [] Tryz.func153 rfl (by decide +kernel) z0i (by decide +kernel) (by simp [Tryz.ntmps153]) ?_)
 show awp _ _ (Code.seq _ _) _ _
 repeat' (first | refine zqj ?_ | ((refine zqh fun K J => ?_); (simp (disch := omega) only [go_sem, Nat.reduceBEq, ↓reduceIte, z3b])) | ((refine zqd _ rfl (fun hc => ?_) (fun hc => ?_)) <;> (((try simp only [z01] at hc); (try (exfalso; omega))))) | refine zqa ?_ | refine zqb ?_ | refine zqg ?_ | refine zqu (by (simp (disch := omega) only [go_sem]); rfl) rfl ?_ | (refine J _ ?_; clear J K))
 ·exact z00 (decide_eq_false (fun h => by subst h; contradiction)).symm
 ·have hl : a.length = b.length := by omega
  (refine z3h (fun U st => ∃ (k : _), U = a.length - k /\ st.t 0 = z3b a /\ st.t 1 = z3b b /\ st.t 5 = .int .i64 k /\ (k <= a.length) /\ (a.take k = b.take k)) ?_ ?_); rotate_left; (rintro U st ⟨k, rfl, q0, q1, q5, qp0, qp1⟩); rotate_left
  ·(refine ⟨_, 0, rfl, ?_⟩); (simp (disch := omega) only [go_sem, Nat.reduceBEq, and_self, Int.natCast_zero, z3b])
   try simp
  repeat' (first | refine zqj ?_ | ((first | refine zqh fun K J => ?_ | refine zqe (by decide +kernel) fun K J => ?_ | refine zqr fun K J => ?_); (simp (disch := omega) only [go_sem, Nat.reduceBEq, ↓reduceIte, reduceCtorEq, Nat.reduceAdd, q0, q1, q5, z3b])) | ((first | refine zqd _ rfl (fun hc => ?_) (fun hc => ?_) | refine zqm _ rfl (fun hc => ?_) (fun hc => ?_)) <;> (((try simp only [z01] at hc); (try (exfalso; omega))))) | refine zqa ?_ | refine zqb ?_ | refine zqc ?_ | refine zqk ?_ | refine zqn ?_ | refine zqv ?_ | refine zqx ?_ | refine zqy ?_ | refine zqz ?_ | refine z23 ?_ | refine zqp ?_ | refine zqo ?_ | refine zqu (by (simp (disch := omega) only [go_sem]); rfl) rfl ?_ | (refine J _ ?_; clear J K))
  ·exact z00 (decide_eq_false (zik (k := k) (by omega) hl (by assumption))).symm
  ·(refine Exists.intro _ (And.intro ?_ ⟨k + 1, rfl, ?_⟩)); rotate_left; (simp (disch := omega) only [go_sem, Nat.reduceBEq, q0, q1, q5, true_and, Int.natCast_add, Int.natCast_one, z3b]); rotate_left
   ·omega
   ·exact ⟨by omega, z5h (by omega) hl qp1 (by assumption)⟩
  ·exact z00 (decide_eq_true (z7d (by omega) hl qp1)).symm
theorem zaw (l : List ByteArray) (hl : l.length <= maxLen) (hs : ∀ s ∈ l, s.size <= maxLen) (n : Int) : PC Tryz.prog 82 [z3b l, .int .i64 n] (.bool (zfg l && decide (n <= (l.length : Int)))) := by
 have c1 := zz3 l hl hs
 refine z1y 1 (by simp only [pureD.pureL, z31, pureD, Bool.and_self]) rfl (z1v [] Tryz.func82 rfl (by decide +kernel) z0i (by decide +kernel) (by simp [Tryz.ntmps82]) ?_)
 show awp _ _ (Code.seq _ _) _ _
 repeat' (first | ((first | refine zqh fun K J => ?_ | refine zqs (c1) ?_); (simp (disch := omega) only [go_sem, Nat.reduceBEq, z3b])) | refine zqn ?_ | refine zqu (by (simp (disch := omega) only [go_sem]); rfl) rfl ?_ | (refine J _ ?_; clear J K) | (refine zqf (fun hb => ?_) (fun hb => ?_) <;> (have hb2 := hb; try simp only [z01] at hb2) <;> ((have F : (_ : Bool) = _ := hb2); (simp (disch := omega) only [go_sem, Nat.reduceBEq, ↓reduceIte, hb]); clear hb F; (try (exfalso; omega)))))
 all_goals refine z00 ?_
 all_goals first | (rw [‹zfg l = true›, Bool.true_and]; done) | (rw [‹zfg l = true›, Bool.true_and, decide_eq_decide]; omega) | (rw [‹zfg l = false›]; rfl)
theorem nameC_t {b : UInt8} (h : (97 <= b.toNat /\ b.toNat <= 122) \/ (48 <= b.toNat /\ b.toNat <= 57) \/ b.toNat = 45) : zlh b = true := by
 unfold zlh zsk dig
 simp only [Bool.or_eq_true, decide_eq_true_eq]; exact h
theorem nameC_f {b : UInt8} (h : ¬ ((97 <= b.toNat /\ b.toNat <= 122) \/ (48 <= b.toNat /\ b.toNat <= 57) \/ b.toNat = 45)) : zlh b = false := by
 rw [<- Bool.not_eq_true]
 intro g
 unfold zlh zsk dig at g
 simp only [Bool.or_eq_true, decide_eq_true_eq] at g
 exact h g
theorem zel (s : ByteArray) (hs : s.size <= maxLen) : PC Tryz.prog 78 [.str s] (.bool (ze5 s)) := by
 unfold maxLen at hs
 refine z1y 1 (by simp only [pureD.pureL, pureD, Bool.and_self]) rfl (z1v [] Tryz.func78 rfl (by decide +kernel) z0i (by decide +kernel) (by simp [Tryz.ntmps78]) ?_)
 show awp _ _ (Code.seq _ _) _ _
 have hbl := z18 s
 have hz : Int.toNat 0 = 0 := rfl
 have hhd : ∀ h : 0 < (bl s).length, (bl s)[0] = (bl s).headD 0 := fun h => zo1 (s := s) h
 by_cases hlen : 1 <= s.size /\ s.size <= 16
 ·have hpos : 0 < (bl s).length := by omega
  have hhd := hhd hpos
  by_cases hlo : zsk ((bl s).headD 0) = true
  ·have hlo2 : 97 <= ((bl s)[0]'hpos).toNat /\ ((bl s)[0]'hpos).toNat <= 122 := by rw [hhd]; exact of_decide_eq_true hlo
   have hn : ze5 s = (bl s).all zlh := by unfold ze5; rw [decide_eq_true hlen, hlo]; rfl
   rw [hn]
   repeat' (first | refine zqj ?_ | ((refine zqh fun K J => ?_); (simp (disch := omega) only [go_sem, Nat.reduceBEq, ↓reduceIte])) | ((refine zqd _ rfl (fun hc => ?_) (fun hc => ?_)) <;> (((try simp only [z01] at hc); (try (exfalso; omega))))) | refine zqa ?_ | refine zqb ?_ | (refine J _ ?_; clear J K) | (refine zqf (fun hb => ?_) (fun hb => ?_) <;> (have hb2 := hb; try simp only [z01] at hb2) <;> ((first | have F := eq_false hb2 | have F := eq_true hb2); (simp (disch := omega) only [go_sem, Nat.reduceBEq, ↓reduceIte, Int.reduceLE, F, zdi, hz]); clear hb F; (try (exfalso; omega)))))
   (refine z3h (fun U st => ∃ (k : _), U = s.size - k /\ st.t 0 = .str s /\ st.t 3 = .int .i64 k /\ (k <= s.size) /\ (((bl s).take k).all zlh = true)) ?_ ?_); rotate_left; (rintro U st ⟨k, rfl, q0, q3, qp0, qp1⟩); rotate_left
   ·(refine ⟨_, 0, rfl, ?_⟩); (simp (disch := omega) only [go_sem, Nat.reduceBEq, true_and, Int.natCast_zero])
    simp
   by_cases O : k < s.size
   ·repeat' (first | refine zqj ?_ | ((first | refine zqh fun K J => ?_ | refine zqr fun K J => ?_); (simp (disch := omega) only [go_sem, Nat.reduceBEq, ↓reduceIte, q0, q3, zdi])) | ((first | refine zqd _ rfl (fun hc => ?_) (fun hc => ?_) | refine zqm _ rfl (fun hc => ?_) (fun hc => ?_)) <;> (first | (cases hc; done) | ((try simp only [z01] at hc); (try (exfalso; omega))))) | refine zqa ?_ | refine zqb ?_ | refine zqk ?_ | refine zqn ?_ | refine zqv ?_ | refine zqx ?_ | refine zqy ?_ | refine z23 ?_ | refine zqo ?_ | refine zqu (by (simp (disch := omega) only [go_sem]); rfl) rfl ?_ | (refine J _ ?_; clear J K) | (refine zqf (fun hb => ?_) (fun hb => ?_) <;> (have hb2 := hb; try simp only [z01] at hb2) <;> ((first | have F := eq_false hb2 | have F := eq_true hb2); (simp (disch := omega) only [go_sem, Nat.reduceBEq, ↓reduceIte, F]); clear hb F; (try (exfalso; omega)))))
    all_goals first
     | exact z00 (z3r (k := k) (by omega) (nameC_f (by omega))).symm
     | skip
    all_goals
     (refine Exists.intro _ (And.intro ?_ ⟨k + 1, rfl, ?_⟩)); rotate_left; (simp (disch := omega) only [go_sem, Nat.reduceBEq, q0, q3, true_and, Int.natCast_add, Int.natCast_one]); rotate_left
     ·omega
     ·exact ⟨by omega, z2f (by omega) qp1 (nameC_t (by omega))⟩
   ·repeat' (first | refine zqj ?_ | ((refine zqh fun K J => ?_); (simp (disch := omega) only [go_sem, Nat.reduceBEq, ↓reduceIte, q0, q3])) | ((refine zqd _ rfl (fun hc => ?_) (fun hc => ?_)) <;> (((try simp only [z01] at hc); (try (exfalso; omega))))) | refine zqc ?_ | refine zqn ?_ | refine zqv ?_ | refine zqz ?_ | refine zqp ?_ | refine zqu (by (simp (disch := omega) only [go_sem]); rfl) rfl ?_ | (refine J _ ?_; clear J K))
    exact z00 (z2l (k := k) (by omega) qp1).symm
  ·have hlo2 : ¬ (97 <= ((bl s)[0]'hpos).toNat /\ ((bl s)[0]'hpos).toNat <= 122) := by rw [hhd]; exact fun g => hlo (decide_eq_true g)
   have hn : ze5 s = false := by
    rw [Bool.not_eq_true] at hlo
    unfold ze5; rw [hlo, Bool.false_and, Bool.and_false]
   rw [hn]
   repeat' (first | refine zqj ?_ | ((refine z03 (N := 3) rfl fun K J => ?_); (simp (disch := omega) only [go_sem, Nat.reduceBEq, ↓reduceIte])) | ((refine zqd _ rfl (fun hc => ?_) (fun hc => ?_)) <;> (first | (cases hc; done) | ((try simp only [z01] at hc); (try (exfalso; omega))))) | refine zqg ?_ | refine zqu (by (simp (disch := omega) only [go_sem]); rfl) rfl ?_ | (refine J _ ?_; clear J K) | (refine zqf (fun hb => ?_) (fun hb => ?_) <;> (have hb2 := hb; try simp only [z01] at hb2) <;> ((first | have F := eq_false hb2 | have F := eq_true hb2); (simp (disch := omega) only [go_sem, Nat.reduceBEq, ↓reduceIte, Int.reduceLE, F, zdi, hz]); clear hb F; (try (exfalso; omega)))))
   all_goals first | exact z00 rfl | (exfalso; omega)
 ·have hn : ze5 s = false := by unfold ze5; rw [decide_eq_false hlen]; rfl
  rw [hn]
  repeat' (first | refine zqj ?_ | ((refine z03 (N := 3) rfl fun K J => ?_); (simp (disch := omega) only [go_sem, Nat.reduceBEq, ↓reduceIte])) | ((refine zqd _ rfl (fun hc => ?_) (fun hc => ?_)) <;> (first | (cases hc; done) | ((try simp only [] at hc); (try (exfalso; omega))))) | refine zqg ?_ | refine zqu (by (simp (disch := omega) only [go_sem]); rfl) rfl ?_ | (refine J _ ?_; clear J K) | (refine zqf (fun hb => ?_) (fun hb => ?_) <;> (have hb2 := hb; try simp only [z01] at hb2) <;> ((first | have F := eq_false hb2 | have F := eq_true hb2); (simp (disch := omega) only [go_sem, Nat.reduceBEq, ↓reduceIte, Int.reduceLE, F, zdi, hz]); clear hb F; (try (exfalso; omega)))))
  all_goals first | exact z00 rfl | (exfalso; omega)
theorem zxp (k d : Int) (e : ByteArray) (he : e.size <= maxLen) : PC Tryz.prog 79 [.agg [.int .i64 k, .int .i64 d, .str e]] (.bool (zsl k d e)) := by
 have c1 := z7l d 0 1048576
 have c2 := zel e he
 have hin : inB d 0 1048576 = decide (0 <= d /\ d <= 1048576) := rfl
 refine z1y 1 rfl rfl (z1v [] Tryz.func79 rfl (by decide +kernel) z0i (by decide +kernel) (by simp [Tryz.ntmps79]) ?_)
 show awp _ _ (Code.seq _ _) _ _
 unfold zsl
 by_cases h1 : k = 1
 ·rw [if_pos h1, <- hin]
  repeat' (first | refine zqj ?_ | ((first | refine zqh fun K J => ?_ | refine zqs (c1) ?_); (simp (disch := omega) only [go_sem, Nat.reduceBEq, ↓reduceIte, reduceCtorEq, Nat.reduceAdd, h1])) | ((refine zqm _ rfl (fun hc => ?_) (fun hc => ?_)) <;> (first | (cases hc; done) | ((try simp only [] at hc); (try (exfalso; omega))))) | refine zqa ?_ | refine zqn ?_ | refine zqx ?_ | refine z23 ?_ | refine zqu (by (simp (disch := omega) only [go_sem]); rfl) rfl ?_ | (refine J _ ?_; clear J K) | (refine zqf (fun hb => ?_) (fun hb => ?_) <;> (have hb2 := hb; try simp only [z01] at hb2) <;> ((have F : (_ : Bool) = _ := hb2); (simp (disch := omega) only [go_sem, Nat.reduceBEq, ↓reduceIte, reduceCtorEq, Nat.reduceAdd, hb]); clear hb F; (try (exfalso; omega)))))
  all_goals first
   | (refine z00 ?_; rw [‹inB d 0 1048576 = true›, Bool.true_and]; try (exact decide_eq_decide.2 Iff.rfl))
   | (refine z00 ?_; rw [‹inB d 0 1048576 = false›]; rfl)
   | (refine z00 ?_; rw [decide_eq_true (p := d = 0) (by assumption), Bool.true_and]; try (exact decide_eq_decide.2 Iff.rfl))
   | (refine z00 ?_; rw [decide_eq_false (p := d = 0) (by assumption)]; rfl)
 ·rw [if_neg h1]
  by_cases h3 : k = 3
  ·rw [if_pos h3]
   repeat' (first | refine zqj ?_ | ((first | refine zqh fun K J => ?_ | refine zqs (c2) ?_); (simp (disch := omega) only [go_sem, Nat.reduceBEq, ↓reduceIte, reduceCtorEq, Nat.reduceAdd, Int.reduceEq, h3])) | ((refine zqm _ rfl (fun hc => ?_) (fun hc => ?_)) <;> (first | (cases hc; done) | ((try simp only [] at hc); (try (exfalso; omega))))) | refine zqa ?_ | refine zqn ?_ | refine zqx ?_ | refine z23 ?_ | refine zqu (by (simp (disch := omega) only [go_sem]); rfl) rfl ?_ | (refine J _ ?_; clear J K) | (refine zqf (fun hb => ?_) (fun hb => ?_) <;> (have hb2 := hb; try simp only [z01] at hb2) <;> ((first | have F := eq_false hb2 | have F := eq_true hb2); (simp (disch := omega) only [go_sem, Nat.reduceBEq, ↓reduceIte, reduceCtorEq, Nat.reduceAdd, F]); clear hb F; (try (exfalso; omega)))))
   all_goals first
    | (refine z00 ?_; rw [‹inB d 0 1048576 = true›, Bool.true_and]; try (exact decide_eq_decide.2 Iff.rfl))
    | (refine z00 ?_; rw [‹inB d 0 1048576 = false›]; rfl)
    | (refine z00 ?_; rw [decide_eq_true (p := d = 0) (by assumption), Bool.true_and]; try (exact decide_eq_decide.2 Iff.rfl))
    | (refine z00 ?_; rw [decide_eq_false (p := d = 0) (by assumption)]; rfl)
  ·rw [if_neg h3]
   by_cases h0 : k = 0 \/ k = 2
   ·rw [if_pos h0]
    rcases h0 with h0 | h0
    all_goals (repeat' (first | refine zqj ?_ | ((refine zqh fun K J => ?_); (simp (disch := omega) only [go_sem, Nat.reduceBEq, ↓reduceIte, reduceCtorEq, Nat.reduceAdd, Int.reduceEq, h0])) | ((first | refine zqd _ rfl (fun hc => ?_) (fun hc => ?_) | refine zqm _ rfl (fun hc => ?_) (fun hc => ?_)) <;> (first | (cases hc; done) | ((try simp only [] at hc); (try (exfalso; omega))))) | refine zqa ?_ | refine zqb ?_ | refine zqn ?_ | refine zqx ?_ | refine z23 ?_ | refine zqu (by (simp (disch := omega) only [go_sem]); rfl) rfl ?_ | (refine J _ ?_; clear J K) | (refine zqf (fun hb => ?_) (fun hb => ?_) <;> (have hb2 := hb; try simp only [z01] at hb2) <;> ((first | have F := eq_false hb2 | have F := eq_true hb2); (simp (disch := omega) only [go_sem, Nat.reduceBEq, ↓reduceIte, reduceCtorEq, Nat.reduceAdd, F]); clear hb F; (try (exfalso; omega))))))
    all_goals first
     | (refine z00 ?_; rw [‹inB d 0 1048576 = true›, Bool.true_and]; try (exact decide_eq_decide.2 Iff.rfl))
     | (refine z00 ?_; rw [‹inB d 0 1048576 = false›]; rfl)
     | (refine z00 ?_; rw [decide_eq_true (p := d = 0) (by assumption), Bool.true_and]; try (exact decide_eq_decide.2 Iff.rfl))
     | (refine z00 ?_; rw [decide_eq_false (p := d = 0) (by assumption)]; rfl)
   ·rw [if_neg h0]
    repeat' (first | refine zqj ?_ | ((refine zqh fun K J => ?_); (simp (disch := omega) only [go_sem, Nat.reduceBEq, ↓reduceIte, reduceCtorEq, Nat.reduceAdd])) | ((first | refine zqd _ rfl (fun hc => ?_) (fun hc => ?_) | refine zqm _ rfl (fun hc => ?_) (fun hc => ?_)) <;> (((try simp only [z01] at hc); (try (exfalso; omega))))) | refine zqa ?_ | refine zqk ?_ | refine zqn ?_ | refine zqv ?_ | refine zqy ?_ | refine zqu (by (simp (disch := omega) only [go_sem]); rfl) rfl ?_ | (refine J _ ?_; clear J K))
    all_goals first | exact z00 rfl | (exfalso; omega)
namespace Tr
structure BaseI (x : It) : Prop where
 at_ : x.at_.length <= maxLen
 to : x.to.length <= maxLen
 old : x.old.length <= maxLen
 new : x.new.length <= maxLen
 by_ : x.by_.length <= maxLen
 unit : szB x.unit = true
def FitF (x : It) (l : List Prop) : Prop := BaseI x /\ ∀ p ∈ l, p
def zym (x : It) : Prop := zvr FitF x
theorem zb9 (x : It) : zym x ↔ BaseI x /\ ∀ k ∈ x.by_, zym k := by
 unfold zym
 rw [zc2]
 refine ⟨fun ⟨h1, h2⟩ => ⟨h1, fun k O => h2 _ (List.mem_map.2 ⟨k, O, rfl⟩)⟩, fun ⟨h1, h2⟩ => ⟨h1, fun p hp => ?_⟩⟩
 obtain ⟨k, O, rfl⟩ := List.mem_map.1 hp
 exact h2 k O
theorem It.ext {a b : It} (h0 : a.kind = b.kind) (h1 : a.at_ = b.at_) (h2 : a.to = b.to) (h3 : a.wh = b.wh) (h4 : a.nth = b.nth) (h5 : a.unit = b.unit) (h6 : a.old = b.old) (h7 : a.new = b.new) (h8 : a.label = b.label) (h9 : a.for_ = b.for_)
  (g0 : a.sk = b.sk) (g1 : a.sd = b.sd) (g2 : a.se = b.se) (g3 : a.act = b.act) (g4 : a.item = b.item) (g5 : a.day = b.day) (g6 : a.event = b.event) (g7 : a.by_ = b.by_) : a = b := by
 cases a; cases b
 simp only [It.kind, It.at_, It.to, It.wh, It.nth, It.unit, It.old, It.new, It.label, It.for_, It.sk, It.sd, It.se, It.act, It.item, It.day, It.event, It.by_] at *
 subst h0 h1 h2 h3 h4 h5 h6 h7 h8 h9 g0 g1 g2 g3 g4 g5 g6 g7
 rfl
structure Sta where
 k : Int
 d : Int
 e : ByteArray
instance : DecidableEq Sta := fun a b => decidable_of_iff (a.k = b.k /\ a.d = b.d /\ a.e = b.e) ⟨fun ⟨h1, h2, h3⟩ => by cases a; cases b; simp_all, fun h => by subst h; exact ⟨rfl, rfl, rfl⟩⟩
theorem staEq (a b c a' b' c') : (decide (a = a') && (decide (b = b') && decide (c = c'))) = decide (Sta.mk a b c = Sta.mk a' b' c') := by
 rw [Bool.eq_iff_iff]; simp [Sta.mk.injEq]
theorem staEq' (a b c a' b' c') : (decide (a = a') && decide (b = b') && decide (c = c')) = decide (Sta.mk a b c = Sta.mk a' b' c') := by rw [Bool.and_assoc, staEq]
end Tr
set_option maxHeartbeats 16000000 in
theorem zyn : ∀ a : It, zym a -> ∀ b : It, zym b -> PC Tryz.prog 75 [z8u a, z8u b] (.bool (decide (a = b))) := by
 refine zm7 fun a ih ha b hb => ?_
 obtain ⟨a1, a2⟩ := (zb9 a).1 ha
 obtain ⟨b1, b2⟩ := (zb9 b).1 hb
 have c1 := zjo a.at_ b.at_ a1.at_ b1.at_
 have c2 := zjo a.to b.to a1.to b1.to
 have c3 := znh a.old b.old a1.old b1.old
 have c4 := znh a.new b.new a1.new b1.new
 have c5 := zs8 a.unit a1.unit b.unit b1.unit
 have hl1 := a1.by_
 have hl2 := b1.by_
 unfold maxLen at hl1 hl2
 have hst := staEq a.sk a.sd a.se b.sk b.sd b.se
 have hst' := staEq' a.sk a.sd a.se b.sk b.sd b.se
 refine z1y 1 (by simp only [pureD.pureL, z2v, Bool.and_self]) rfl (z1v [] Tryz.func75 rfl (by decide +kernel) z0i (by decide +kernel) (by simp [Tryz.ntmps75]) ?_)
 show awp _ _ (Code.seq _ _) _ _
 repeat' (first | refine zqj ?_ | ((refine z03 (N := 3) rfl fun K J => ?_); (simp (disch := omega) only [go_sem, Nat.reduceBEq, ↓reduceIte, reduceCtorEq, Nat.reduceAdd, List.append_eq, List.cons_append, List.nil_append, List.map_cons, List.map_nil])) | ((refine zqd _ rfl (fun hc => ?_) (fun hc => ?_)) <;> (first | (cases hc; done) | ((try simp only [z01] at hc); (try (exfalso; omega))))) | refine zqb ?_ | refine zqg ?_ | refine zqu (by (simp (disch := omega) only [go_sem]); rfl) rfl ?_ | (refine J _ ?_; clear J K) | (refine zqf (fun hb => ?_) (fun hb => ?_) <;> (have hb2 := hb; try simp only [z01] at hb2) <;> ((first | have F := eq_false hb2 | have F := eq_true hb2); (simp (disch := omega) only [go_sem, Nat.reduceBEq, ↓reduceIte, reduceCtorEq, Nat.reduceAdd, Nat.reduceLeDiff, F, hst']); clear hb F; (try (exfalso; omega)))))
 all_goals first
  | exact z00 (decide_eq_false (fun h => by subst h; contradiction)).symm
  | skip
 clear hst hst'
 have hsta : a.sk = b.sk /\ a.sd = b.sd /\ a.se = b.se := by
  have h := ‹Sta.mk a.sk a.sd a.se = Sta.mk b.sk b.sd b.se›
  rw [Sta.mk.injEq] at h; exact h
 (refine z1o (fun st => st.t 2 = .ptr 0 0 /\ st.t 3 = .ptr 1 0 /\ st.H 0 = some (.box 43 (z0f a)) /\ st.H 1 = some (.box 43 (z0f b)) /\ st.nx = 2) ?_ ?_); rotate_left; (rintro st ⟨p2, p3, pH0, pH1, pnx⟩); rotate_left
 ·(simp (disch := omega) only [go_sem, Nat.reduceBEq, and_self])
 repeat' (first | refine zqj ?_ | ((first | refine z03 (N := 5) rfl fun K J => ?_ | refine zqs (c1) ?_ | refine zqs (c2) ?_ | refine zqs (c3) ?_ | refine zqs (c4) ?_ | refine zqs (c5) ?_); (simp (disch := omega) only [go_sem, Nat.reduceBEq, ↓reduceIte, reduceCtorEq, Nat.reduceAdd, p2, p3, pH0, pH1, pnx])) | ((refine zqd _ rfl (fun hc => ?_) (fun hc => ?_)) <;> (first | (cases hc; done) | ((try simp only [z01] at hc); (try (exfalso; omega))))) | refine zqb ?_ | refine zqg ?_ | refine zqu (by (simp (disch := omega) only [go_sem]); rfl) rfl ?_ | (refine J _ ?_; clear J K) | (refine zqf (fun hb => ?_) (fun hb => ?_) <;> (have hb2 := hb; try simp only [z01] at hb2) <;> ((first | have F := eq_false hb2 | have F := eq_true hb2); (simp (disch := omega) only [go_sem, Nat.reduceBEq, ↓reduceIte, reduceCtorEq, Nat.reduceAdd, Nat.reduceLeDiff, F, p2, p3, pH0, pH1, z2i]); clear hb F; (try (exfalso; omega)))))
 all_goals first
  | exact z00 (decide_eq_false (fun h => by subst h; contradiction)).symm
  | skip
 have hl : a.by_.length = b.by_.length := by omega
 repeat' (first | ((refine zqh fun K J => ?_); (simp (disch := omega) only [go_sem, pnx])) | refine zqa ?_ | (refine J _ ?_; clear J K))
 (refine z3h (fun U st => ∃ (k : _), U = a.by_.length - k /\ st.t 2 = .ptr 0 0 /\ st.t 3 = .ptr 1 0 /\ st.t 5 = .int .i64 k /\ st.H 0 = some (.box 43 (z0f a)) /\ st.H 1 = some (.box 43 (z0f b)) /\ st.nx = 2 /\ (k <= a.by_.length) /\ (a.by_.take k = b.by_.take k)) ?_ ?_); rotate_left; (rintro U st ⟨k, rfl, q2, q3, q5, qH0, qH1, qnx, qp0, qp1⟩); rotate_left
 ·(refine ⟨_, 0, rfl, ?_⟩); (simp (disch := omega) only [go_sem, Nat.reduceBEq, p2, p3, pH0, pH1, and_self, Int.natCast_zero])
 by_cases O : k < a.by_.length
 ·have c6 := ih a.by_[k] (List.getElem_mem O) (a2 _ (List.getElem_mem O)) (b.by_[k]'(by omega)) (b2 _ (List.getElem_mem (by omega)))
  repeat' (first | refine zqj ?_ | ((first | refine zqh fun K J => ?_ | refine zqe (by decide +kernel) fun K J => ?_ | refine zqr fun K J => ?_ | refine zqt (c6) ?_); (simp (disch := omega) only [go_sem, Nat.reduceBEq, ↓reduceIte, reduceCtorEq, Nat.reduceAdd, q2, q3, q5, qH0, qH1, qnx, z2i])) | ((first | refine zqd _ rfl (fun hc => ?_) (fun hc => ?_) | refine zqm _ rfl (fun hc => ?_) (fun hc => ?_)) <;> (((try simp only [z01] at hc); (try (exfalso; omega))))) | refine zqa ?_ | refine zqb ?_ | refine zqk ?_ | refine zqn ?_ | refine zqv ?_ | refine zqx ?_ | refine zqy ?_ | refine z23 ?_ | refine zqo ?_ | refine zqu (by (simp (disch := omega) only [go_sem]); rfl) rfl ?_ | (refine J _ ?_; clear J K))
  ·exact z00 (decide_eq_false (fun h => by subst h; exact ‹¬ a.by_[k] = a.by_[k]› rfl)).symm
  ·(refine Exists.intro _ (And.intro ?_ ⟨k + 1, rfl, ?_⟩)); rotate_left; (simp (disch := omega) only [go_sem, Nat.reduceBEq, q2, q3, q5, qH0, qH1, true_and, Int.natCast_add, Int.natCast_one]); rotate_left
   ·omega
   ·exact ⟨by omega, z5h O hl qp1 (by assumption)⟩
 ·repeat' (first | refine zqj ?_ | ((refine zqh fun K J => ?_); (simp (disch := omega) only [go_sem, Nat.reduceBEq, ↓reduceIte, reduceCtorEq, Nat.reduceAdd, q2, q5, qH0, qnx, z2i])) | ((refine zqd _ rfl (fun hc => ?_) (fun hc => ?_)) <;> (((try simp only [z01] at hc); (try (exfalso; omega))))) | refine zqc ?_ | refine zqn ?_ | refine zqv ?_ | refine zqz ?_ | refine zqp ?_ | refine zqu (by (simp (disch := omega) only [go_sem]); rfl) rfl ?_ | (refine J _ ?_; clear J K))
  have hby := z7d (by omega) hl qp1
  exact z00 (decide_eq_true (It.ext (by assumption) (by assumption) (by assumption) (by assumption) (by assumption) (by assumption) (by assumption) (by assumption) (by assumption) (by assumption) hsta.1 hsta.2.1 hsta.2.2 (by assumption) (by assumption) (by assumption) (by assumption) hby)).symm
end
section
open Abs Facts Tr
namespace Tr
structure BaseR (x : It) : Prop where
 at_ : x.at_.length <= maxLen /\ ∀ s ∈ x.at_, s.label.size <= maxLen
 to : x.to.length <= maxLen /\ ∀ s ∈ x.to, s.label.size <= maxLen
 old : x.old.length <= maxLen /\ ∀ s ∈ x.old, s.size <= maxLen
 new : x.new.length <= maxLen /\ ∀ s ∈ x.new, s.size <= maxLen
 by_ : x.by_.length <= maxLen
 unit : fitB x.unit = true
 strs : x.label.size <= maxLen /\ x.for_.size <= maxLen /\ x.se.size <= maxLen /\ x.event.size <= maxLen
def RdF (x : It) (l : List Prop) : Prop := BaseR x /\ ∀ p ∈ l, p
def RdI (x : It) : Prop := zvr RdF x
theorem zhr (x : It) : RdI x ↔ BaseR x /\ ∀ k ∈ x.by_, RdI k := by
 unfold RdI
 rw [zc2]
 refine ⟨fun ⟨h1, h2⟩ => ⟨h1, fun k O => h2 _ (List.mem_map.2 ⟨k, O, rfl⟩)⟩, fun ⟨h1, h2⟩ => ⟨h1, fun p hp => ?_⟩⟩
 obtain ⟨k, O, rfl⟩ := List.mem_map.1 hp
 exact h2 k O
def zme (x : It) : Bool := decide (0 < x.by_.length) && decide (0 < (x.by_.headD x).by_.length)
def fewN (x : It) : Bool := decide (x.at_.length <= 12) && (decide (x.to.length <= 12) && (decide (x.old.length <= 300) && (decide (x.new.length <= 300) && (decide (x.label.size <= 100) && (decide (x.for_.size <= 100) && (decide (x.se.size <= 100) && (decide (x.event.size <= 100) && (decide (x.by_.length <= 2) && zz4 x.unit 30))))))))
def shS (l : List ByteArray) : Bool := l.all fun s => decide (s.size <= 100)
def shP (l : List Stp) : Bool := l.all fun s => decide (s.label.size <= 100)
def zi1 (x : It) : Bool := zvr (fun x l => fewN x && (shS x.old && (shS x.new && (shP x.at_ && (shP x.to && ((x.by_.zip l).all fun p => !zme p.1 && p.2)))))) x
theorem zmf (x : It) : zi1 x = (fewN x && (shS x.old && (shS x.new && (shP x.at_ && (shP x.to && x.by_.all fun y => !zme y && zi1 y))))) := by
 unfold zi1
 rw [zc2]
 congr 5
 generalize x.by_ = l
 induction l with
 | nil => rfl
 | cons a l ih => simp only [List.map_cons, List.zip_cons_cons, List.all_cons, ih]
structure BaseO (x : It) : Prop where
 at_ : x.at_.length <= 1000 /\ ∀ s ∈ x.at_, s.label.size <= 1000
 to : x.to.length <= 1000 /\ ∀ s ∈ x.to, s.label.size <= 1000
 old : x.old.length <= 1000 /\ ∀ s ∈ x.old, s.size <= 1000
 new : x.new.length <= 1000 /\ ∀ s ∈ x.new, s.size <= 1000
 by_ : x.by_.length <= 1000
 unit : szB x.unit = true /\ cntT x.unit <= 1000 /\ depT x.unit <= 50
 strs : x.label.size <= 1000 /\ x.for_.size <= 1000 /\ x.se.size <= 1000 /\ x.event.size <= 1000
def OkF (x : It) (l : List Prop) : Prop := BaseO x /\ ∀ p ∈ l, p
def OkI (x : It) : Prop := zvr OkF x
theorem za7 (x : It) : OkI x ↔ BaseO x /\ ∀ k ∈ x.by_, OkI k := by
 unfold OkI
 rw [zc2]
 refine ⟨fun ⟨h1, h2⟩ => ⟨h1, fun k O => h2 _ (List.mem_map.2 ⟨k, O, rfl⟩)⟩, fun ⟨h1, h2⟩ => ⟨h1, fun p hp => ?_⟩⟩
 obtain ⟨k, O, rfl⟩ := List.mem_map.1 hp
 exact h2 k O
theorem ok_fit : ∀ x : It, OkI x -> zym x := by
 refine zm7 fun x ih h => ?_
 obtain ⟨h1, h2⟩ := (za7 x).1 h
 refine (zb9 x).2 ⟨⟨?_, ?_, ?_, ?_, ?_, h1.unit.1⟩, fun k O => ih k O (h2 k O)⟩
 ·have := h1.at_.1; unfold maxLen; omega
 ·have := h1.to.1; unfold maxLen; omega
 ·have := h1.old.1; unfold maxLen; omega
 ·have := h1.new.1; unfold maxLen; omega
 ·have := h1.by_; unfold maxLen; omega
theorem zzx : ∀ x : It, zi1 x = true -> OkI x := by
 refine zm7 fun x ih h => ?_
 rw [zmf, fewN] at h
 simp only [Bool.and_eq_true, decide_eq_true_eq, List.all_eq_true, shS, shP] at h
 obtain ⟨⟨a1, a2, a3, a4, a5, a6, a7, a8, a9, a10⟩, b1, b2, b3, b4, b5⟩ := h
 obtain ⟨c1, c2, c3⟩ := zzm (most := 30) (by decide) (by decide) a10
 refine (za7 x).2 ⟨⟨⟨by omega, fun s hs => ?_⟩, ⟨by omega, fun s hs => ?_⟩, ⟨by omega, fun s hs => ?_⟩, ⟨by omega, fun s hs => ?_⟩, by omega, ⟨c1, by omega, by omega⟩, by omega, by omega, by omega, by omega⟩, fun k O => ih k O (b5 k O).2⟩
 ·have := b3 s hs; omega
 ·have := b4 s hs; omega
 ·have := b1 s hs; omega
 ·have := b2 s hs; omega
theorem zys (x : It) (h : zym x) : zym (zli x) := by
 obtain ⟨h1, h2⟩ := (zb9 x).1 h
 have z : szB T.zero = true := by decide +kernel
 refine (zb9 _).2 ⟨⟨?_, ?_, ?_, ?_, ?_, ?_⟩, ?_⟩
 ·show (if _ then x.at_ else []).length <= _
  split
  ·exact h1.at_
  ·exact Nat.zero_le _
 ·show (if _ then x.to else []).length <= _
  split
  ·exact h1.to
  ·exact Nat.zero_le _
 ·show (if _ then x.old else []).length <= _
  split
  ·exact h1.old
  ·exact Nat.zero_le _
 ·show (if _ then x.new else []).length <= _
  split
  ·exact h1.new
  ·exact Nat.zero_le _
 ·show (if _ then x.by_ else []).length <= _
  split
  ·exact h1.by_
  ·exact Nat.zero_le _
 ·show szB (if _ then x.unit else T.zero) = true
  split
  ·exact h1.unit
  ·exact z
 ·show ∀ k ∈ (if x.kind = 11 then x.by_ else []), zym k
  split
  ·exact h2
  ·intro k O; cases O
end Tr
end
end Go.Proofs.YtppebcifiejplaaGreatDoor
namespace Go.Proofs.YtppebcifiejplaaGreatDoor.Glue
open Go.ChangeShapes Go.WideShapes Go.ChangeAt Go.RowKit Abs Facts Tr
theorem ownK : ownKnob Tryz.prog.godebug = none := by kernel_rfl
theorem laidOutK : laidOutB Tryz.prog = true := by kernel_rfl
def S : List TypeId := [4, 3, 9, 38, 23, 120, 122, 24, 27, 25, 109, 37, 40, 43, 41, 45]
set_option maxRecDepth 100000
theorem zrl : zlo Tryz.prog S = true := by decide +kernel
theorem zwg {n : Nat} {ds : List D} (h : z3u Tryz.prog n 23 ds) : ∃ i : Idv, ds = z08 i := by
 obtain ⟨m, rfl, h⟩ := z2x Tryz.underlying23 h
 obtain ⟨d1, r1, rfl, h1, d2, r2, rfl, h2, d3, r3, rfl, h3, rfl⟩ := h
 obtain ⟨i, rfl, _⟩ := z1t Tryz.underlying3 h1
 obtain ⟨j, rfl, _⟩ := z1t Tryz.underlying3 h2
 obtain ⟨k, rfl, _⟩ := z1t Tryz.underlying3 h3
 exact ⟨⟨i, j, k⟩, rfl⟩
theorem zo2 {n : Nat} {ds : List D} (h : z3u Tryz.prog n 122 ds) : ∃ w : Wd, ds = z7f w := by
 obtain ⟨m, rfl, h⟩ := z2x Tryz.underlying122 h
 obtain ⟨d1, r1, rfl, h1, d2, r2, rfl, h2, rfl⟩ := h
 obtain ⟨s, rfl, _⟩ := z4x Tryz.underlying9 h1
 obtain ⟨m', rfl, h3⟩ := z2x Tryz.underlying120 h2
 obtain ⟨e1, q1, rfl, g1, e2, q2, rfl, g2, e3, q3, rfl, g3, rfl⟩ := h3
 obtain ⟨i, rfl, _⟩ := z1t Tryz.underlying3 g1
 obtain ⟨j, rfl, _⟩ := z1t Tryz.underlying3 g2
 obtain ⟨k, rfl, _⟩ := z1t Tryz.underlying3 g3
 exact ⟨⟨s, ⟨i, j, k⟩⟩, rfl⟩
theorem zdj {n : Nat} {ds : List D} (h : z3u Tryz.prog n 24 ds) : ∃ l : List Wd, ds = [z0s l] /\ l.length <= maxLen := by
 obtain ⟨m, parts, rfl, hl, hp, rfl⟩ := z5x Tryz.underlying24 h
 obtain ⟨l, rfl, _⟩ := z3k (f := z7f) (q := fun _ => True) (fun p hp => by obtain ⟨w, e⟩ := zo2 hp; exact ⟨w, e, trivial⟩) parts hp
 refine ⟨l, ?_, by simpa using hl⟩
 rw [zjv, zno, List.map_map]; rfl
theorem zfx : ∀ (n : Nat) {ds : List D}, z3u Tryz.prog n 27 ds -> ∃ t : T, ds = z07 t /\ fitB t = true := by
 intro n
 induction n using Nat.strongRecOn with
 | ind n ih =>
  intro ds h
  obtain ⟨m, rfl, h⟩ := z2x Tryz.underlying27 h
  obtain ⟨d1, r1, rfl, h1, d2, r2, rfl, h2, d3, r3, rfl, h3, d4, r4, rfl, h4, d5, r5, rfl, h5, d6, r6, rfl, h6, rfl⟩ := h
  obtain ⟨i, rfl⟩ := zwg h1
  obtain ⟨k, rfl, _⟩ := z1t Tryz.underlying3 h2
  obtain ⟨s, rfl, _⟩ := z4x Tryz.underlying9 h3
  obtain ⟨a, rfl, ha⟩ := zdj h4
  obtain ⟨b, rfl, hb⟩ := zdj h5
  obtain ⟨q, parts, rfl, hl, hp, rfl⟩ := z5x Tryz.underlying25 h6
  obtain ⟨l, rfl, hq⟩ := z3k (f := z07) (q := fun t => fitB t = true) (fun p hp => ih q (by omega) hp) parts hp
  refine ⟨.mk i k s a b l, ?_, ?_⟩
  ·rw [z1p, z7o, z6p, List.map_map]; rfl
  ·rw [z9x]
   exact ⟨ha, hb, (show l.length <= _ by simpa using hl), hq⟩
theorem zo3 {n : Nat} {ds : List D} (h : z3u Tryz.prog n 109 ds) : ∃ s : Stp, ds = z3o s /\ s.label.size <= maxLen := by
 obtain ⟨m, rfl, h⟩ := z2x Tryz.underlying109 h
 obtain ⟨d1, r1, rfl, h1, d2, r2, rfl, h2, rfl⟩ := h
 obtain ⟨i, rfl, _⟩ := z1t Tryz.underlying3 h1
 obtain ⟨s, rfl, hs⟩ := z4x Tryz.underlying9 h2
 exact ⟨⟨i, s⟩, rfl, hs⟩
theorem zdk {n : Nat} {ds : List D} (h : z3u Tryz.prog n 37 ds) : ∃ l : List Stp, ds = [z0a l] /\ l.length <= maxLen /\ ∀ s ∈ l, s.label.size <= maxLen := by
 obtain ⟨m, parts, rfl, hl, hp, rfl⟩ := z5x Tryz.underlying37 h
 obtain ⟨l, rfl, hq⟩ := z3k (f := z3o) (q := fun s : Stp => s.label.size <= maxLen) (fun p hp => zo3 hp) parts hp
 refine ⟨l, ?_, by simpa using hl, hq⟩
 rw [zem, zhk, List.map_map]; rfl
theorem zo4 : ∀ (n : Nat) {ds : List D}, z3u Tryz.prog n 43 ds -> ∃ x : It, ds = z0f x /\ RdI x := by
 intro n
 induction n using Nat.strongRecOn with
 | ind n ih =>
  intro ds h
  obtain ⟨m, rfl, h⟩ := z2x Tryz.underlying43 h
  obtain ⟨d0, r0, rfl, h0, d1, r1, rfl, h1, d2, r2, rfl, h2, d3, r3, rfl, h3, d4, r4, rfl, h4, d5, r5, rfl, h5, d6, r6, rfl, h6, d7, r7, rfl, h7, d8, r8, rfl, h8, d9, r9, rfl, h9, d10, r10, rfl, h10, d11, r11, rfl, h11, d12, r12, rfl, h12, d13, r13, rfl, h13, d14, r14, rfl, h14, d15, r15, rfl, h15, rfl⟩ := h
  obtain ⟨k, rfl, _⟩ := z1t Tryz.underlying3 h0
  obtain ⟨a, rfl, ha⟩ := zdk h1
  obtain ⟨b, rfl, hb⟩ := zdk h2
  obtain ⟨w, rfl, _⟩ := z1t Tryz.underlying3 h3
  obtain ⟨nth, rfl, _⟩ := z1t Tryz.underlying3 h4
  obtain ⟨u, rfl, hu⟩ := zfx _ h5
  obtain ⟨o, rfl, ho⟩ := zga Tryz.underlying38 Tryz.underlying9 z83 h6
  obtain ⟨p, rfl, hp⟩ := zga Tryz.underlying38 Tryz.underlying9 z83 h7
  obtain ⟨l, rfl, hl⟩ := z4x Tryz.underlying9 h8
  obtain ⟨f, rfl, hf⟩ := z4x Tryz.underlying9 h9
  obtain ⟨m', hm', h10⟩ := z2x Tryz.underlying40 h10
  obtain ⟨s1, t1, rfl, g1, s2, t2, rfl, g2, s3, t3, rfl, g3, rfl⟩ := h10
  obtain ⟨sk, rfl, _⟩ := z1t Tryz.underlying3 g1
  obtain ⟨sd, rfl, _⟩ := z1t Tryz.underlying3 g2
  obtain ⟨se, rfl, hse⟩ := z4x Tryz.underlying9 g3
  obtain ⟨x1, rfl, _⟩ := z1t Tryz.underlying3 h11
  obtain ⟨x2, rfl, _⟩ := z1t Tryz.underlying3 h12
  obtain ⟨x3, rfl, _⟩ := z1t Tryz.underlying3 h13
  obtain ⟨e, rfl, he⟩ := z4x Tryz.underlying9 h14
  obtain ⟨q, parts, hq', hln, hpp, rfl⟩ := z5x Tryz.underlying41 h15
  obtain ⟨by_, rfl, hby⟩ := z3k (f := z0f) (q := RdI) (fun p hp => ih q (by omega) hp) parts hpp
  refine ⟨.mk k a b w nth u o p l f sk sd se x1 x2 x3 e by_, ?_, ?_⟩
  ·rw [zey, zxv, sizeT43, List.map_map]; rfl
  ·exact (zhr _).2 ⟨⟨ha, hb, ho, hp, (show by_.length <= _ by simpa using hln), hu, ⟨hl, hf, hse, he⟩⟩, hby⟩
theorem zrm {n : Nat} {ds : List D} (h : z3u Tryz.prog n 45 ds) : ∃ d : EIt, ds = z0t d /\ RdI d.it := by
 obtain ⟨m, rfl, h⟩ := z2x Tryz.underlying45 h
 obtain ⟨d0, r0, rfl, h0, d1, r1, rfl, h1, d2, r2, rfl, h2, d3, r3, rfl, h3, rfl⟩ := h
 obtain ⟨a, rfl, _⟩ := z1t Tryz.underlying3 h0
 obtain ⟨b, rfl, _⟩ := z1t Tryz.underlying3 h1
 obtain ⟨c, rfl, _⟩ := z1t Tryz.underlying3 h2
 obtain ⟨x, rfl, hx⟩ := zo4 _ h3
 refine ⟨⟨a, b, c, x⟩, ?_, hx⟩
 rw [List.append_nil]; rfl
section
variable {H : Type} {enc : TypeId × Value -> H} {W : World} {base : Nat} {r : Reach} {b0 : Nat} {spare : Nat -> Bool} {held : Bool} {v : Value} {d : DataW H} {p : List MemPlace}
theorem rd_unit (hv : Value.okWide Tryz.prog W r b0 27 v) (h : DataW.Trod enc Tryz.prog W base spare held 27 v d p) : ∃ t : T, fitB t = true /\ rel (z6j W) (z25 t) v := by
 obtain ⟨cs, rfl, _⟩ := okWide_struct Tryz.underlying27 hv
 obtain ⟨m, ds, ht, hr⟩ := zts zrl (by decide) h
 obtain ⟨q, rfl, hq⟩ := zfx _ ht
 exact ⟨q, hq, hr⟩
theorem rd_eit (hv : Value.okWide Tryz.prog W r b0 45 v) (h : DataW.Trod enc Tryz.prog W base spare held 45 v d p) : ∃ x : EIt, RdI x.it /\ rel (z6j W) (zf0 x) v := by
 obtain ⟨cs, rfl, _⟩ := okWide_struct Tryz.underlying45 hv
 obtain ⟨m, ds, ht, hr⟩ := zts zrl (by decide) h
 obtain ⟨q, rfl, hq⟩ := zrm ht
 exact ⟨q, hq, hr⟩
end
end Go.Proofs.YtppebcifiejplaaGreatDoor.Glue
namespace Go.Proofs.YtppebcifiejplaaGreatDoor
section
open Abs Facts Tr
attribute [local irreducible] awp
set_option maxRecDepth 100000
namespace Tr
theorem zza {i : Nat} {s : Stp} (h1 : ¬ (i : Int) = 0 \/ zfj s = false) (h2 : s.kind < 1 \/ 7 < s.kind \/ z3c s.label = false) : okS i s = false := by
 unfold okS zfk
 have a : (decide (i = 0) && zfj s) = false := by
  rcases h1 with h | h
  ·rw [decide_eq_false (by omega)]; rfl
  ·rw [h, Bool.and_false]
 have b : (decide (1 <= s.kind /\ s.kind <= 7) && z3c s.label) = false := by
  rcases h2 with h | h | h
  ·rw [decide_eq_false (by omega)]; rfl
  ·rw [decide_eq_false (by omega)]; rfl
  ·rw [h, Bool.and_false]
 rw [a, b]; rfl
theorem zn8 {i : Nat} {s : Stp} (h1 : (i : Int) = 0) (h2 : zfj s = true) : okS i s = true := by
 unfold okS; rw [decide_eq_true (show i = 0 by omega), h2]; rfl
theorem zn9 {i : Nat} {s : Stp} (h1 : ¬ s.kind < 1) (h2 : ¬ 7 < s.kind) (h3 : z3c s.label = true) : okS i s = true := by
 unfold okS zfk; rw [decide_eq_true (show 1 <= s.kind /\ s.kind <= 7 by omega), h3, Bool.and_true, Bool.or_true]
end Tr
theorem zxc (s : Stp) : PC Tryz.prog 155 [zc3 s] (.bool (zfj s)) := by
 refine z1y 1 rfl rfl (z1v [] Tryz.func155 rfl (by decide +kernel) z0i (by decide +kernel) (by simp [Tryz.ntmps155]) ?_)
 show awp _ _ (Code.seq _ _) _ _
 repeat' (first | ((refine zqh fun K J => ?_); (simp (disch := omega) only [go_sem, Nat.reduceBEq, ↓reduceIte, reduceCtorEq, Nat.reduceAdd])) | refine zqn ?_ | refine zqu (by (simp (disch := omega) only [go_sem]); rfl) rfl ?_ | (refine J _ ?_; clear J K) | (refine zqf (fun hb => ?_) (fun hb => ?_) <;> (have hb2 := hb; try simp only [z01] at hb2) <;> ((first | have F := eq_false hb2 | have F := eq_true hb2); (simp (disch := omega) only [go_sem, Nat.reduceBEq, ↓reduceIte, reduceCtorEq, Nat.reduceAdd, F]); clear hb F; (try (exfalso; omega)))))
 all_goals exact z00 (by unfold zfj z1c; first | (simp_all; done) | (simp_all; exact decide_eq_decide.2 Iff.rfl))
theorem ztc (p : List Stp) (hl : p.length <= maxLen) (hs : ∀ s ∈ p, s.label.size <= maxLen) : PC Tryz.prog 77 [z0a p] (.bool (z7c p)) := by
 unfold maxLen at hl
 have c1 := fun (i : Nat) (h : i < p.length) => zxc p[i]
 have c2 := fun (i : Nat) (h : i < p.length) => zd5 p[i].label (hs _ (List.getElem_mem h))
 refine z1y 1 (by simp only [pureD.pureL, z1e, Bool.and_self]) rfl (z1v [] Tryz.func77 rfl (by decide +kernel) z0i (by decide +kernel) (by simp [Tryz.ntmps77]) ?_)
 show awp _ _ (Code.seq _ _) _ _
 repeat' (first | refine zqj ?_ | ((refine zqh fun K J => ?_); (simp (disch := omega) only [go_sem, Nat.reduceBEq, ↓reduceIte, z0a])) | ((refine zqd _ rfl (fun hc => ?_) (fun hc => ?_)) <;> (((try simp only [z01] at hc); (try (exfalso; omega))))) | refine zqa ?_ | refine zqb ?_ | refine zqg ?_ | refine zqu (by (simp (disch := omega) only [go_sem]); rfl) rfl ?_ | (refine J _ ?_; clear J K))
 ·exact z00 (zs3 (by omega)).symm
 (refine z3h (fun U st => ∃ (k : _), U = p.length - k /\ st.t 0 = z0a p /\ st.t 3 = .int .i64 k /\ (k <= p.length) /\ (p.length <= 9) /\ (∀ i, (hi : i < k) -> (h : i < p.length) -> okS i p[i] = true)) ?_ ?_); rotate_left; (rintro U st ⟨k, rfl, q0, q3, qp0, qp1, qp2⟩); rotate_left
 ·(refine ⟨_, 0, rfl, ?_⟩); (simp (disch := omega) only [go_sem, Nat.reduceBEq, true_and, Int.natCast_zero, z0a])
  exact ⟨by omega, fun i hi => by omega⟩
 by_cases O : k < p.length
 ·have step : okS k p[k] = true -> ∀ i, (hi : i < k + 1) -> (h : i < p.length) -> okS i p[i] = true := fun hb i hi h => by
   by_cases e : i = k
   ·subst e; exact hb
   ·exact qp2 i (by omega) h
  repeat' (first | refine zqj ?_ | ((first | refine zqh fun K J => ?_ | refine zqr fun K J => ?_ | refine zqs (c1 k O) ?_ | refine zqs (c2 k O) ?_); (simp (disch := omega) only [go_sem, Nat.reduceBEq, ↓reduceIte, reduceCtorEq, Nat.reduceAdd, q0, q3, z0a])) | ((first | refine zqd _ rfl (fun hc => ?_) (fun hc => ?_) | refine zqm _ rfl (fun hc => ?_) (fun hc => ?_)) <;> (first | (cases hc; done) | ((try simp only [z01] at hc); (try (exfalso; omega))))) | refine zqa ?_ | refine zqb ?_ | refine zqc ?_ | refine zqk ?_ | refine zqn ?_ | refine zqv ?_ | refine zqx ?_ | refine zqy ?_ | refine zqz ?_ | refine z23 ?_ | refine zqo ?_ | refine zqu (by (simp (disch := omega) only [go_sem]); rfl) rfl ?_ | (refine J _ ?_; clear J K) | (refine zqf (fun hb => ?_) (fun hb => ?_) <;> (have hb2 := hb; try simp only [z01] at hb2) <;> ((first | have F := eq_false hb2 | have F := eq_true hb2); (simp (disch := omega) only [go_sem, Nat.reduceBEq, ↓reduceIte, reduceCtorEq, Nat.reduceAdd, F, q0, q3, z0a]); clear hb F; (try (exfalso; omega)))))
  all_goals first
   | exact z00 (zmu O (zza (by first | (left; omega) | (right; assumption)) (by first | (left; assumption) | (right; left; assumption) | (right; right; assumption)))).symm
   | skip
  all_goals
   (refine Exists.intro _ (And.intro ?_ ⟨k + 1, rfl, ?_⟩)); rotate_left; (simp (disch := omega) only [go_sem, Nat.reduceBEq, q0, q3, true_and, Int.natCast_add, Int.natCast_one]); rotate_left
   ·omega
   ·exact ⟨by omega, by omega, step (by first | exact zn8 (by omega) (by assumption) | exact zn9 (by assumption) (by assumption) (by assumption))⟩
 ·repeat' (first | refine zqj ?_ | ((refine zqh fun K J => ?_); (simp (disch := omega) only [go_sem, Nat.reduceBEq, ↓reduceIte, q0, q3, z0a])) | ((refine zqd _ rfl (fun hc => ?_) (fun hc => ?_)) <;> (((try simp only [z01] at hc); (try (exfalso; omega))))) | refine zqc ?_ | refine zqn ?_ | refine zqv ?_ | refine zqz ?_ | refine zqp ?_ | refine zqu (by (simp (disch := omega) only [go_sem]); rfl) rfl ?_ | (refine J _ ?_; clear J K))
  exact z00 (zmv (by omega) fun i hi => qp2 i (by omega) hi).symm
theorem zln (x : D) (l : List D) : zvz (x :: l) 0 = some x := by simp [zvz]
theorem zji {L : List T} {s : Stp} {i : Nat} (hi : i < L.length) (j : Nat) : ((L.take i).flatMap (fun x => x.kids.filter (atB s)) ++ (L[i].kids.take j).filter (atB s)).length <= (z2r L s).length := by
 have e : L = L.take i ++ L[i] :: L.drop (i + 1) := by rw [<- List.drop_eq_getElem_cons hi, List.take_append_drop]
 have h1 : (z2r L s).length = ((L.take i).flatMap (fun x => x.kids.filter (atB s))).length + ((L[i].kids.filter (atB s)).length + ((L.drop (i + 1)).flatMap (fun x => x.kids.filter (atB s))).length) := by
  unfold z2r
  conv => lhs; rw [e]
  rw [List.flatMap_append, List.flatMap_cons, List.length_append, List.length_append]
 have h2 : ((L[i].kids.take j).filter (atB s)).length <= (L[i].kids.filter (atB s)).length := ((List.take_sublist _ _).filter _).length_le
 rw [h1, List.length_append]; omega
theorem z8l (l : List T) (n : Nat) (hn : n = l.length) : z1m true 8 n (l.flatMap z07) = l.map z25 := by
 subst hn; exact z6v (f := z07) (sz := 8) z0v l
theorem z9e (l : List T) : pureD.pureL (l.flatMap z07) = true := z2m z1d l
namespace Tr
theorem zol {id : Idv} {t : T} (h : t.id = id) : z32 id t = [] := by unfold z32; rw [z3d h]; rfl
theorem zom {id : Idv} {t : T} (h : z26 id t = []) : z32 id t = [] := by unfold z32; rw [h]; rfl
theorem zs0 {id : Idv} {t k : T} (h : z26 id t = t :: z26 id k) (h2 : z26 id k ≠ []) : z32 id t = zfn k :: z32 id k := by
 have := zt3 (z42.1 h2)
 unfold z32
 rw [h, List.drop_succ_cons, List.drop_zero]
 conv => lhs; rw [this]
 rfl
theorem zih (id : Idv) (t : T) : (z32 id t).length <= depT t := by
 have := zau id t
 unfold z32
 rw [List.length_map, List.length_drop]; omega
end Tr
theorem z2o : ∀ w : List Stp, z1h 2 (w.map zc3) = some (w.flatMap z3o)
 | [] => rfl
 | t :: w => by
  rw [List.map_cons, List.flatMap_cons]
  unfold z1h
  rw [z2o w]
  rfl
def zz6 (id : Idv) (t : T) : D := .tup [z0a (z32 id t), .bool (z0c id t).2]
theorem zs1 (id : Idv) (t : T) : pureD (zz6 id t) = true := by simp only [zz6, pureD, pureD.pureL, z1e, Bool.and_self]
theorem zo0 (s : Stp) : PC Tryz.prog 128 [zc3 s] (.bool (zfj s)) := by
 refine z1y 1 rfl rfl (z1v [] Tryz.func128 rfl (by decide +kernel) z0i (by decide +kernel) (by simp [Tryz.ntmps128]) ?_)
 show awp _ _ (Code.seq _ _) _ _
 repeat' (first | ((refine zqh fun K J => ?_); (simp (disch := omega) only [go_sem, Nat.reduceBEq, ↓reduceIte, reduceCtorEq, Nat.reduceAdd])) | refine zqn ?_ | refine zqu (by (simp (disch := omega) only [go_sem]); rfl) rfl ?_ | (refine J _ ?_; clear J K) | (refine zqf (fun hb => ?_) (fun hb => ?_) <;> (have hb2 := hb; try simp only [z01] at hb2) <;> ((first | have F := eq_false hb2 | have F := eq_true hb2); (simp (disch := omega) only [go_sem, Nat.reduceBEq, ↓reduceIte, reduceCtorEq, Nat.reduceAdd, F]); clear hb F; (try (exfalso; omega)))))
 all_goals exact z00 (by unfold zfj z1c; first | (simp_all; done) | (simp_all; exact decide_eq_decide.2 Iff.rfl))
theorem zff (u : T) (s : Stp) : PC Tryz.prog 131 [z25 u, zc3 s] (.bool (atB s u)) := by
 refine z1y 1 (by simp only [pureD.pureL, z05]; rfl) rfl (z1v [] Tryz.func131 rfl (by decide +kernel) z0i (by decide +kernel) (by simp [Tryz.ntmps131]) ?_)
 show awp _ _ (Code.seq _ _) _ _
 repeat' (first | ((refine zqh fun K J => ?_); (simp (disch := omega) only [go_sem, Nat.reduceBEq, ↓reduceIte, reduceCtorEq, Nat.reduceAdd])) | refine zqn ?_ | refine zqu (by (simp (disch := omega) only [go_sem]); rfl) rfl ?_ | (refine J _ ?_; clear J K) | (refine zqf (fun hb => ?_) (fun hb => ?_) <;> (have hb2 := hb; try simp only [z01] at hb2) <;> ((first | have F := eq_false hb2 | have F := eq_true hb2); (simp (disch := omega) only [go_sem, Nat.reduceBEq, ↓reduceIte, reduceCtorEq, Nat.reduceAdd, F]); clear hb F; (try (exfalso; omega)))))
 all_goals exact z00 (by unfold atB; first | (simp_all; done) | (simp_all; exact decide_eq_decide.2 Iff.rfl))
theorem zl4 (p : List Stp) (hl : p.length <= maxLen) (hs : ∀ s ∈ p, s.label.size <= maxLen) : PC Tryz.prog 124 [z0a p] (.bool (z7c p)) := by
 unfold maxLen at hl
 have c1 := fun (i : Nat) (h : i < p.length) => zo0 p[i]
 have c2 := fun (i : Nat) (h : i < p.length) => zhj p[i].label (hs _ (List.getElem_mem h))
 refine z1y 1 (by simp only [pureD.pureL, z1e, Bool.and_self]) rfl (z1v [] Tryz.func124 rfl (by decide +kernel) z0i (by decide +kernel) (by simp [Tryz.ntmps124]) ?_)
 show awp _ _ (Code.seq _ _) _ _
 repeat' (first | refine zqj ?_ | ((refine zqh fun K J => ?_); (simp (disch := omega) only [go_sem, Nat.reduceBEq, z0a])) | refine zqa ?_ | (refine J _ ?_; clear J K))
 (refine z3h (fun U st => ∃ (k : _), U = p.length - k /\ st.t 0 = z0a p /\ st.t 5 = z0a p /\ st.t 6 = .int .i64 p.length /\ st.t 7 = .int .i64 k /\ (k <= p.length) /\ (∀ i, (hi : i < k) -> (h : i < p.length) -> okS i p[i] = true)) ?_ ?_); rotate_left; (rintro U st ⟨k, rfl, q0, q5, q6, q7, qp0, qp1⟩); rotate_left
 ·(refine ⟨_, 0, rfl, ?_⟩); (simp (disch := omega) only [go_sem, Nat.reduceBEq, true_and, Int.natCast_zero, z0a])
  exact fun i hi => by omega
 by_cases O : k < p.length
 ·have step : okS k p[k] = true -> ∀ i, (hi : i < k + 1) -> (h : i < p.length) -> okS i p[i] = true := fun hb i hi h => by
   by_cases e : i = k
   ·subst e; exact hb
   ·exact qp1 i (by omega) h
  repeat' (first | refine zqj ?_ | ((first | refine zqh fun K J => ?_ | refine zqr fun K J => ?_ | refine zqs (c1 k O) ?_ | refine zqs (c2 k O) ?_); (simp (disch := omega) only [go_sem, Nat.reduceBEq, ↓reduceIte, reduceCtorEq, Nat.reduceAdd, Nat.reduceLeDiff, q5, q6, q7, z0a])) | ((first | refine zqd _ rfl (fun hc => ?_) (fun hc => ?_) | refine zqm _ rfl (fun hc => ?_) (fun hc => ?_)) <;> (first | (cases hc; done) | ((try simp only [z01] at hc); (try (exfalso; omega))))) | refine zqa ?_ | refine zqb ?_ | refine zqc ?_ | refine zqk ?_ | refine zqn ?_ | refine zqv ?_ | refine zqx ?_ | refine zqy ?_ | refine zqz ?_ | refine z23 ?_ | refine zqo ?_ | refine zqu (by (simp (disch := omega) only [go_sem]); rfl) rfl ?_ | (refine J _ ?_; clear J K) | (refine zqf (fun hb => ?_) (fun hb => ?_) <;> (have hb2 := hb; try simp only [z01] at hb2) <;> ((first | have F := eq_false hb2 | have F := eq_true hb2); (simp (disch := omega) only [go_sem, Nat.reduceBEq, ↓reduceIte, reduceCtorEq, Nat.reduceAdd, Nat.reduceLeDiff, F]); clear hb F; (try (exfalso; omega)))))
  all_goals first
   | exact z00 (zmu O (zza (by first | (left; omega) | (right; assumption)) (by first | (left; omega) | (right; left; omega) | (right; right; assumption)))).symm
   | skip
  all_goals
   (refine Exists.intro _ (And.intro ?_ ⟨k + 1, rfl, ?_⟩)); rotate_left; (simp (disch := omega) only [go_sem, Nat.reduceBEq, q0, q5, q6, q7, true_and, Int.natCast_add, Int.natCast_one]); rotate_left
   ·omega
   ·exact ⟨by omega, step (by first | exact zn8 (by omega) (by assumption) | exact zn9 (by omega) (by omega) (by assumption))⟩
 ·repeat' (first | ((refine zqh fun K J => ?_); (simp (disch := omega) only [go_sem, Nat.reduceBEq, ↓reduceIte, q0, q6, q7, z0a])) | ((refine zqd _ rfl (fun hc => ?_) (fun hc => ?_)) <;> (((try simp only [z01] at hc); (try (exfalso; omega))))) | refine zqc ?_ | refine zqn ?_ | refine zqv ?_ | refine zqz ?_ | refine zqp ?_ | refine zqu (by (simp (disch := omega) only [go_sem]); rfl) rfl ?_ | (refine J _ ?_; clear J K))
  refine z00 ?_
  unfold z7c
  rw [decide_eq_true (p := ∀ i, (h : i < p.length) -> okS i p[i] = true) fun i hi => qp1 i (by omega) hi, Bool.and_true]
  simp only [decide_eq_decide]; omega
theorem zz2 {σ : Type} {g : FuncId} {cap : List D} {lo : Nat} {I : σ -> HM -> Prop} (step : T -> σ -> σ) (hI : Low lo I) (m : σ -> Nat) (M : Nat) (hm : ∀ x s, m (step x s) <= m s + 1) :
  ∀ u : T, fitB u = true -> (∀ x ∈ z0d u, ∀ s, m s < M -> Eff Tryz.prog g (z25 x :: cap) lo I s (step x s) (.tup [])) ->
  ∀ s, m s + (z0d u).length <= M -> Eff Tryz.prog 129 [z25 u, .fn g cap] lo I s ((z0d u).foldl (fun s x => step x s) s) (.tup []) := by
 refine z55 fun u ih hfit hv s hM => ?_
 obtain ⟨h1, h2, h3, h4⟩ := (z9x u).1 hfit
 have ih := fun k O => ih k O (h4 k O) (fun x hx => hv x (z2k O hx))
 have hlen : (z0d u).length = 1 + (u.kids.flatMap z0d).length := by rw [z20, List.length_cons, Nat.add_comm]
 have hv := hv u (z1j u) s (by omega)
 have hm1 := hm u s
 unfold maxLen at h3
 have hrun : (z0d u).foldl (fun s x => step x s) s = (u.kids.flatMap z0d).foldl (fun s x => step x s) (step u s) := by rw [z20]; rfl
 rw [hrun]; clear hrun
 generalize step u s = s1 at hv hm1 ⊢
 refine zas hI rfl fun H nx hlo hs => ?_
 refine (z1v [] Tryz.func129 rfl (by decide +kernel) z0i (by decide +kernel) (by simp [Tryz.ntmps129]) ?_)
 show awp _ _ (Code.seq _ _) _ _
 repeat' (first | ((refine zqh fun K J => ?_); (simp (disch := omega) only [go_sem, Nat.reduceBEq, ↓reduceIte, Nat.reduceAdd, Nat.reduceLeDiff])) | (refine J _ ?_; clear J K))
 refine z6w hv (by show lo <= nx + 1; omega) (hI.loc s H _ (fun id hid => z57 (by omega)) hs) fun H1 hs1 hH1 => ?_
 have hb1 : H1 nx = some (.box 27 (z07 u)) := (hH1 nx hlo).trans zsn
 have hk1 : ∀ id, lo <= id -> id < nx -> H1 id = H id := fun id h1 h2 => (hH1 id h1).trans (z57 (by omega))
 clear hH1
 (try (simp (disch := omega) only [go_sem])); repeat' (first | ((refine zqh fun K J => ?_); (simp (disch := omega) only [go_sem, Nat.reduceBEq, ↓reduceIte, reduceCtorEq, Nat.reduceAdd, hb1])) | refine zqi ?_ | (refine J _ ?_; clear J K))
 (refine z3h (fun U st => ∃ (i : _) (si : _), U = u.kids.length - i /\ st.t 1 = .fn g cap /\ st.t 10 = z10 u.kids /\ st.t 11 = .int .i64 u.kids.length /\ st.t 12 = .int .i64 i /\ (i <= u.kids.length) /\ (nx < st.nx) /\ (I si st.H) /\ (((u.kids.take i).flatMap z0d).foldl (fun s x => step x s) s1 = si) /\ (∀ id, lo <= id -> id < nx -> st.H id = H id)) ?_ ?_); rotate_left; (rintro U st ⟨i, si, rfl, q1, q10, q11, q12, qp0, qp1, qp2, qp3, qp4⟩); rotate_left
 ·(refine ⟨_, 0, s1, rfl, ?_⟩); (simp (disch := omega) only [go_sem, Nat.reduceBEq, true_and, Int.natCast_zero, List.flatMap_nil, z10])
  exact ⟨by omega, hs1, rfl, hk1⟩
 have ih := fun (h : i < u.kids.length) => ih u.kids[i] (List.getElem_mem h) si
 repeat' (first | ((first | refine zqh fun K J => ?_ | refine zqr fun K J => ?_); (simp (disch := omega) only [go_sem, Nat.reduceBEq, ↓reduceIte, reduceCtorEq, Nat.reduceAdd, Nat.reduceLeDiff, q1, q10, q11, q12, z10])) | ((refine zqd _ rfl (fun hc => ?_) (fun hc => ?_)) <;> (((try simp only [z01] at hc); (try (exfalso; omega))))) | refine zqa ?_ | refine zqb ?_ | refine zqc ?_ | refine zqz ?_ | refine zqp ?_ | refine zqu (by (simp (disch := omega) only [go_sem]); rfl) rfl ?_ | (refine J _ ?_; clear J K))
 ·have hi : i < u.kids.length := by omega
  have hle : ∀ (l : List T) (s : σ), m (l.foldl (fun s x => step x s) s) <= m s + l.length := fun l => by
   induction l with
   | nil => intro s; simp
   | cons x l ih2 => intro s; have h1 := ih2 (step x s); have h2 := hm x s; simp only [List.foldl_cons, List.length_cons]; omega
  have ih := ih hi (by
   have h1 := hle ((u.kids.take i).flatMap z0d) s1
   rw [qp3] at h1
   have h2 : (u.kids.flatMap z0d).length = ((u.kids.take i).flatMap z0d).length + ((z0d u.kids[i]).length + ((u.kids.drop (i + 1)).flatMap z0d).length) := by
    rw [<- List.length_append, <- List.flatMap_cons, List.getElem_cons_drop, <- List.length_append, <- List.flatMap_append, List.take_append_drop]
   omega)
  have hrun : ((u.kids.take (i + 1)).flatMap z0d).foldl (fun s x => step x s) s1 = (z0d u.kids[i]).foldl (fun s x => step x s) si := by
   rw [List.take_succ_eq_append_getElem hi, List.flatMap_append, List.foldl_append, qp3]; simp
  refine z6w ih (by show lo <= st.nx + 1; omega) (hI.loc si st.H _ (fun id hid => (z57 (by omega)).trans (z57 (by omega))) qp2) fun H2 hs2 hH2 => ?_
  have hk2 : ∀ id, lo <= id -> id < nx -> H2 id = H id := fun id h1 h2 => ((hH2 id h1).trans ((z57 (by omega)).trans (z57 (by omega)))).trans (qp4 id h1 h2)
  clear hH2
  (try (simp (disch := omega) only [go_sem])); repeat' (first | ((refine zqr fun K J => ?_); (simp (disch := omega) only [go_sem, Nat.reduceBEq, ↓reduceIte, q12])) | refine zqv ?_ | refine zqy ?_ | (refine J _ ?_; clear J K))
  (refine Exists.intro _ (And.intro ?_ ⟨i + 1, (z0d u.kids[i]).foldl (fun s x => step x s) si, rfl, ?_⟩)); rotate_left; (simp (disch := omega) only [go_sem, Nat.reduceBEq, q1, q10, q11, q12, true_and, Int.natCast_add, Int.natCast_one]); rotate_left
  ·omega
  ·exact ⟨by omega, hs2, hrun, hk2⟩
 ·have : u.kids.take i = u.kids := List.take_of_length_le (by omega)
  rw [this] at qp3
  rw [qp3]
  (simp (disch := omega) only [go_sem])
  exact ⟨qp2, qp4⟩
def zl5 (u : T) (p : List Stp) (l : List T) : List HObj := [.box 27 (z07 u), .box 37 [z0a p], .box 25 [.osl 3 l.length], .row 27 l.length (l.flatMap z07)]
theorem low_F (u : T) (p : List Stp) : Low 4 fun l H => ∀ j, j < 4 -> H j = (zl5 u p l)[j]? := zn5 (zl5 u p) (fun _ => rfl) fun l o ho => by
 simp only [zl5, List.mem_cons, List.not_mem_nil, or_false] at ho
 rcases ho with rfl | rfl | rfl | rfl
 ·exact zgb _ _
 ·exact z3e 4 [z0a p] (by simp only [pureD.pureL, z1e, Bool.and_self])
 ·rfl
 ·exact z3e _ _ (z9e l)
def addF (s : Stp) (x : T) (l : List T) : List T := if atB s x = true then l ++ [x] else l
theorem zl6 (s : Stp) : ∀ (l a : List T), l.foldl (fun a x => addF s x a) a = a ++ l.filter (atB s)
 | [], a => by simp
 | x :: l, a => by
  rw [List.foldl_cons, zl6 s l, List.filter_cons]
  unfold addF
  split <;> simp
theorem zrg (u x : T) (s : Stp) (r : List Stp) (l : List T) (hl : l.length < 1000000) : Eff Tryz.prog 130 [z25 x, .ptr 1 0, .ptr 2 0] 4 (fun l H => ∀ j, j < 4 -> H j = (zl5 u (s :: r) l)[j]?) l (addF s x l) (.tup []) := by
 refine zas (low_F u (s :: r)) rfl fun H nx hlo hs => ?_
 have h0 : H 0 = some (.box 27 (z07 u)) := hs 0 (by omega)
 have h1 : H 1 = some (.box 37 [z0a (s :: r)]) := hs 1 (by omega)
 have h2 : H 2 = some (.box 25 [.osl 3 l.length]) := hs 2 (by omega)
 have h3 : H 3 = some (.row 27 l.length (l.flatMap z07)) := hs 3 (by omega)
 have hne : (1 == nx) = false := by simp; omega
 have hne' : (0 == nx) = false := by simp; omega
 have hne2 : (2 == nx) = false := by simp; omega
 have hne3 : (3 == nx) = false := by simp; omega
 have c1 := zff x s
 have hz : Int.toNat 0 = 0 := rfl
 refine (z1v [600014, 900003, 600002, 900002] Tryz.func130 rfl (by decide +kernel) z0i (by decide +kernel) (by simp [Tryz.ntmps130]) ?_)
 show awp _ _ (Code.seq _ _) _ _
 unfold addF
 have hall : ([Value.int .i64 0, Value.int .i64 0, Value.int .i64 0, Value.int .i64 0, Value.string ⟨#[]⟩, Value.slice none 0 0, Value.slice none 0 0, Value.slice none 0 0].all fun x => x.oneCell') = true := rfl
 have hfl : (l.flatMap z07).length = l.length * 8 := z9c z0v l
 have hle : l.length * 8 <= (l.flatMap z07).length := Nat.le_of_eq hfl.symm
 have hsp : z11 (l.flatMap z07 ++ [.int .i64 0, .int .i64 0, .int .i64 0, .int .i64 0, .str ⟨#[]⟩, .nil, .nil, .nil]) (l.length * 8) (z07 x) = l.flatMap z07 ++ z07 x := by
  rw [<- hfl]
  have := za0 (z07 x) (l.flatMap z07) [.int .i64 0, .int .i64 0, .int .i64 0, .int .i64 0, .str ⟨#[]⟩, .nil, .nil, .nil] 0
  rw [Nat.add_zero] at this
  rw [this, z24 _ _ (by rw [z0v]; rfl)]
 repeat' (first | ((first | refine zqh fun K J => ?_ | refine zqe (by decide +kernel) fun K J => ?_ | refine zqq (by decide +kernel) fun K J => ?_ | refine zqt (c1) ?_); (simp (disch := omega) only [go_sem, Nat.reduceBEq, Nat.reduceEqDiff, ↓reduceIte, reduceCtorEq, Nat.reduceAdd, Nat.reduceMul, Nat.reduceLeDiff, Nat.reduceLT, h1, h2, h3, hne, hne2, hne3, z0a, List.map_cons, List.length_cons, zln, hall, hsp, hle])) | ((refine zqm _ rfl (fun hc => ?_) (fun hc => ?_)) <;> (((try simp only [z01] at hc); (try (exfalso; omega))))) | refine zqk ?_ | refine zqu (by (simp (disch := omega) only [go_sem]); rfl) rfl ?_ | (refine J _ ?_; clear J K))
 ·rw [if_pos (by assumption)]
  (simp (disch := omega) only [go_sem])
  refine ⟨fun j hj => ?_, fun id g1 g2 => ?_⟩
  ·match j, hj with
   | 0, _ => simp [hne', h0, zl5]
   | 1, _ => simp [hne, h1, zl5]
   | 2, _ => simp [hne2, zl5]
   | 3, _ => simp [hne3, zl5]
  ·rw [show (id == 2) = false from by simp; omega, show (id == 3) = false from by simp; omega, show (id == nx) = false from by simp; omega]; rfl
 ·rw [if_neg (by rw [‹atB s x = false›]; simp)]
  (simp (disch := omega) only [go_sem])
  refine ⟨fun j hj => ?_, fun id g1 g2 => ?_⟩
  ·rw [show (j == nx) = false from by simp; omega]; exact hs j hj
  ·rw [show (id == nx) = false from by simp; omega]; rfl
theorem zyf (u : T) (hs : szB u = true) (hc : cntT u <= 1100) (p : List Stp) (hl : p.length <= maxLen) (hps : ∀ s ∈ p, s.label.size <= maxLen) : PC Tryz.prog 62 [z25 u, z0a p] (z10 (z47 u p)) := by
 have c1 := zl4 p hl hps
 have hc0 := hc
 have hn0 : (z0d u).length <= 1100 := hc
 refine z1y 2 (by simp only [pureD.pureL, z05, z1e, Bool.and_self]) (z36 _) (z1v [8] Tryz.func62 rfl (by decide +kernel) z0i (by decide +kernel) (by simp [Tryz.ntmps62]) ?_)
 show awp _ _ (Code.seq _ _) _ _
 by_cases hv : z7c p = true
 ·rw [hv] at c1
  have h9 := (z004 hv).1
  unfold z47
  rw [if_pos hv]
  repeat' (first | refine zqj ?_ | ((first | refine z03 (N := 3) rfl fun K J => ?_ | refine zqs (c1) ?_); (simp (disch := omega) only [go_sem, Nat.reduceBEq, ↓reduceIte, Nat.reduceAdd, z0a])) | ((refine zqd _ rfl (fun hc => ?_) (fun hc => ?_)) <;> (first | (cases hc; done) | ((try simp only [] at hc); (try (exfalso; omega))))) | refine zqb ?_ | (refine J _ ?_; clear J K))
  cases p with
  | nil =>
   repeat' (first | ((refine zqh fun K J => ?_); (simp (disch := omega) only [go_sem, Nat.reduceBEq, ↓reduceIte, reduceCtorEq, Nat.reduceAdd, Nat.reduceMul, Nat.reduceLeDiff])) | ((refine zqm _ rfl (fun hc => ?_) (fun hc => ?_)) <;> (first | (cases hc; done) | ((try simp only [decide_eq_true_eq] at hc); (try (exfalso; omega))))) | refine zqa ?_ | refine zqn ?_ | refine zqx ?_ | refine z23 ?_ | refine zqu (by (simp (disch := omega) only [go_sem]); rfl) rfl ?_ | (refine J _ ?_; clear J K))
   refine z09 ?_ Le.rsl
   show pureD (.rsl true 8 [.agg (z07 u)]) = true
   simp only [pureD, pureD.pureL, z1d, Bool.and_self]
  | cons s r =>
   have c2 := zo0 s
   have hz : Int.toNat 0 = 0 := rfl
   simp only [List.length_cons] at h9
   by_cases hb : zfj s = true
   ·have hft : z3a u s = [u] := if_pos hb
    have hfu : (z3a u s).map z25 = [.agg (z07 u)] := by rw [hft]; rfl
    rw [hb] at c2
    repeat' (first | refine zqj ?_ | ((first | refine zqh fun K J => ?_ | refine zqr fun K J => ?_ | refine zqs (c2) ?_); (simp (disch := omega) only [go_sem, Nat.reduceBEq, ↓reduceIte, reduceCtorEq, Nat.reduceAdd, Nat.reduceMul, Nat.reduceLeDiff, Nat.reduceLT, Int.reduceLE, List.map_cons, List.length_cons, zln, List.drop_zero])) | ((refine zqm _ rfl (fun hc => ?_) (fun hc => ?_)) <;> (first | (cases hc; done) | ((try simp only [decide_eq_false_iff_not] at hc); (try (exfalso; omega))))) | refine zqa ?_ | refine zqv ?_ | refine zqy ?_ | (refine J _ ?_; clear J K))
    (refine z3h (fun U st => ∃ (k : _) (L : List T) (nn : Bool), U = r.length - k /\ st.t 5 = .ptr 2 0 /\ st.t 33 = .rsl false 2 (r.map zc3) /\ st.t 34 = .int .i64 r.length /\ st.t 35 = .int .i64 k /\ st.H 2 = some (.box 25 [.rsl nn 8 (L.map z25)]) /\ (k <= r.length) /\ (L = (r.take k).foldl z2r (z3a u s)) /\ (3 <= st.nx)) ?_ ?_); rotate_left; (rintro U st ⟨k, L, nn, rfl, t5, t33, t34, t35, tH2, tp0, tp1, tp2⟩); rotate_left
    ·(refine ⟨_, 0, z3a u s, true, rfl, ?_⟩); (simp (disch := omega) only [go_sem, Nat.reduceBEq, Nat.reduceLeDiff, true_and, and_true, Int.natCast_add, Int.natCast_one, Int.natCast_zero, hfu])
     exact ⟨rfl, rfl, rfl⟩
    have hLw : z9i L <= 1210000 := by rw [tp1]; exact zam _ _ (zbl hc0)
    by_cases O : k < r.length
    ·obtain ⟨sk, hsk⟩ : ∃ sk, sk = r[k]'O := ⟨_, rfl⟩
     have hLn : (z2r L sk).length <= 1210000 := Nat.le_trans (zal _) (Nat.le_trans (zdz _ _) hLw)
     have hLl : L.length <= 1210000 := Nat.le_trans (zal _) hLw
     have hLm : ∀ x ∈ L, x ∈ z0d u := by rw [tp1]; exact zan _ _ ze0
     repeat' (first | refine zqj ?_ | ((refine zqh fun K J => ?_); (simp (disch := omega) only [go_sem, Nat.reduceBEq, ↓reduceIte, reduceCtorEq, Nat.reduceAdd, Nat.reduceLeDiff, t5, t33, t34, t35, tH2, <- hsk])) | ((refine zqd _ rfl (fun hc => ?_) (fun hc => ?_)) <;> (((try simp only [z01] at hc); (try (exfalso; omega))))) | refine zqa ?_ | refine zqb ?_ | (refine J _ ?_; clear J K))
     (refine z3h (fun U st => ∃ (i : _) (a : Nat) (m : Nat), U = L.length - i /\ st.t 5 = .ptr 2 0 /\ st.t 33 = .rsl false 2 (r.map zc3) /\ st.t 34 = .int .i64 r.length /\ st.t 35 = .int .i64 k /\ st.t 7 = .ptr a 0 /\ st.t 8 = .osl m ((L.take i).flatMap (fun x => x.kids.filter (atB sk))).length /\ st.t 39 = .rsl nn 8 (L.map z25) /\ st.t 40 = .int .i64 L.length /\ st.t 41 = .int .i64 i /\ st.H 2 = some (.box 25 [.rsl nn 8 (L.map z25)]) /\ st.H (a) = some (.box 109 (z3o sk)) /\ st.H (m) = some (.row 27 ((L.take i).flatMap (fun x => x.kids.filter (atB sk))).length (((L.take i).flatMap (fun x => x.kids.filter (atB sk))).flatMap z07)) /\ (i <= L.length) /\ (2 < a) /\ (2 < m) /\ (¬ a = m) /\ (a < st.nx) /\ (m < st.nx)) ?_ ?_); rotate_left; (rintro U st ⟨i, a, m, rfl, v5, v33, v34, v35, v7, v8, v39, v40, v41, vH2, vHa, vHm, vp0, vp1, vp2, vp3, vp4, vp5⟩); rotate_left
     ·(refine ⟨_, 0, st.nx, st.nx + 1, rfl, ?_⟩); (simp (disch := omega) only [go_sem, Nat.reduceBEq, t5, t33, t34, t35, tH2, true_and, Int.natCast_zero, List.flatMap_nil, z3o])
      exact ⟨by omega, by omega, by omega⟩
     have h2m : (2 == m) = false := by simp; omega
     have hm2 : (m == 2) = false := by simp; omega
     have ham : (a == m) = false := by simp; omega
     by_cases hi : i < L.length
     ·have hkl : L[i].kids.length <= 1000000 := (zmg (zdc u hs _ (hLm _ (List.getElem_mem hi)))).1
      repeat' (first | ((refine zqh fun K J => ?_); (simp (disch := omega) only [go_sem, Nat.reduceBEq, ↓reduceIte, reduceCtorEq, Nat.reduceAdd, Nat.reduceLeDiff, v39, v40, v41, z10])) | ((refine zqd _ rfl (fun hc => ?_) (fun hc => ?_)) <;> (((try simp only [z01] at hc); (try (exfalso; omega))))) | refine zqa ?_ | refine zqi ?_ | refine zqb ?_ | (refine J _ ?_; clear J K))
      (refine z3h (fun U st => ∃ (j : _) (b : Nat), U = L[i].kids.length - j /\ st.t 5 = .ptr 2 0 /\ st.t 33 = .rsl false 2 (r.map zc3) /\ st.t 34 = .int .i64 r.length /\ st.t 35 = .int .i64 k /\ st.t 7 = .ptr a 0 /\ st.t 8 = .osl m ((L.take i).flatMap (fun x => x.kids.filter (atB sk)) ++ (L[i].kids.take j).filter (atB sk)).length /\ st.t 39 = .rsl nn 8 (L.map z25) /\ st.t 40 = .int .i64 L.length /\ st.t 41 = .int .i64 i /\ st.t 46 = z10 L[i].kids /\ st.t 47 = .int .i64 L[i].kids.length /\ st.t 48 = .int .i64 j /\ st.H 2 = some (.box 25 [.rsl nn 8 (L.map z25)]) /\ st.H (a) = some (.box 109 (z3o sk)) /\ st.H (m) = some (.row 27 ((L.take i).flatMap (fun x => x.kids.filter (atB sk)) ++ (L[i].kids.take j).filter (atB sk)).length (((L.take i).flatMap (fun x => x.kids.filter (atB sk)) ++ (L[i].kids.take j).filter (atB sk)).flatMap z07)) /\ (j <= L[i].kids.length) /\ (2 < a) /\ (2 < m) /\ (¬ a = m) /\ (a < st.nx) /\ (m < st.nx) /\ (b = 0)) ?_ ?_); rotate_left; (rintro U st ⟨j, b, rfl, w5, w33, w34, w35, w7, w8, w39, w40, w41, w46, w47, w48, wH2, wHa, wHm, wp0, wp1, wp2, wp3, wp4, wp5, wp6⟩); rotate_left
      ·(refine ⟨_, 0, 0, rfl, ?_⟩); (simp (disch := omega) only [go_sem, Nat.reduceBEq, v5, v33, v34, v35, v7, v8, v39, v40, v41, vH2, vHa, vHm, true_and, and_true, and_self, Int.natCast_zero, List.append_nil, z10, List.take_zero, List.filter_nil])
       exact ⟨by omega, by omega, by omega⟩
      have hpt := zji (s := sk) hi j
      rw [List.length_append] at hpt
      by_cases hj : j < L[i].kids.length
      ·have c5 := zff L[i].kids[j] sk
       have htk := List.take_succ_eq_append_getElem hj
       repeat' (first | ((first | refine zqh fun K J => ?_ | refine zqr fun K J => ?_ | refine zqs (c5) ?_); (simp (disch := omega) only [go_sem, Nat.reduceBEq, ↓reduceIte, reduceCtorEq, Nat.reduceAdd, Nat.reduceMul, Nat.reduceLeDiff, w7, w8, w46, w47, w48, wHa, wHm, z10, z3o])) | ((first | refine zqd _ rfl (fun hc => ?_) (fun hc => ?_) | refine zqm _ rfl (fun hc => ?_) (fun hc => ?_)) <;> (((try simp only [z01] at hc); (try (exfalso; omega))))) | refine zqa ?_ | refine zqb ?_ | refine zqk ?_ | refine zqv ?_ | refine zqy ?_ | (refine J _ ?_; clear J K))
       ·have htf : (L[i].kids.take (j + 1)).filter (atB sk) = (L[i].kids.take j).filter (atB sk) ++ [L[i].kids[j]] := by
         rw [htk, List.filter_append, List.filter_cons, if_pos (by assumption)]; rfl
        (refine Exists.intro _ (And.intro ?_ ⟨j + 1, 0, rfl, ?_⟩)); rotate_left; (simp (disch := omega) only [go_sem, Nat.reduceBEq, w5, w33, w34, w35, w7, w8, w39, w40, w41, w46, w47, w48, wH2, wHa, wHm, true_and, and_true, and_self, Int.natCast_add, Int.natCast_one, List.flatMap_append, List.flatMap_cons, List.flatMap_nil, List.append_nil, htf, h2m, ham, List.length_append, List.length_cons, List.length_nil, Nat.add_assoc, List.append_assoc]); rotate_left
        ·omega
        ·repeat' (omega)
       ·have htf : (L[i].kids.take (j + 1)).filter (atB sk) = (L[i].kids.take j).filter (atB sk) := by
         rw [htk, List.filter_append, List.filter_cons, if_neg (by rw [‹atB sk L[i].kids[j] = false›]; simp), List.filter_nil, List.append_nil]
        (refine Exists.intro _ (And.intro ?_ ⟨j + 1, 0, rfl, ?_⟩)); rotate_left; (simp (disch := omega) only [go_sem, Nat.reduceBEq, w5, w33, w34, w35, w7, w8, w39, w40, w41, w46, w47, w48, wH2, wHa, wHm, true_and, and_true, and_self, Int.natCast_add, Int.natCast_one, List.flatMap_append, htf]); rotate_left
        ·omega
        ·repeat' (omega)
      ·repeat' (first | ((first | refine zqh fun K J => ?_ | refine zqr fun K J => ?_); (simp (disch := omega) only [go_sem, Nat.reduceBEq, ↓reduceIte, w41, w47, w48])) | ((refine zqd _ rfl (fun hc => ?_) (fun hc => ?_)) <;> (((try simp only [z01] at hc); (try (exfalso; omega))))) | refine zqc ?_ | refine zqv ?_ | refine zqy ?_ | refine zqz ?_ | refine zqp ?_ | (refine J _ ?_; clear J K))
       have hj2 : L[i].kids.take j = L[i].kids := List.take_of_length_le (by omega)
       have htk : (L.take (i + 1)).flatMap (fun x => x.kids.filter (atB sk)) = (L.take i).flatMap (fun x => x.kids.filter (atB sk)) ++ L[i].kids.filter (atB sk) := by
        rw [List.take_succ_eq_append_getElem hi, List.flatMap_append, List.flatMap_cons, List.flatMap_nil, List.append_nil]
       rw [hj2, <- htk] at w8 wHm
       (refine Exists.intro _ (And.intro ?_ ⟨i + 1, a, m, rfl, ?_⟩)); rotate_left; (simp (disch := omega) only [go_sem, Nat.reduceBEq, w5, w33, w34, w35, w7, w8, w39, w40, w41, wH2, wHa, wHm, true_and, Int.natCast_add, Int.natCast_one]); rotate_left
       ·omega
       ·repeat' (omega)
     ·skip
      repeat' (first | ((refine z03 (N := 23) rfl fun K J => ?_); (simp (disch := omega) only [go_sem, ↓reduceIte, v40, v41])) | ((refine zqd _ rfl (fun hc => ?_) (fun hc => ?_)) <;> (((try simp only [z01] at hc); (try (exfalso; omega))))) | refine zqc ?_ | refine zqv ?_ | refine zqz ?_ | refine zqp ?_ | (refine J _ ?_; clear J K))
      have hi2 : L.take i = L := List.take_of_length_le (by omega)
      have hnx : (r.take (k + 1)).foldl z2r (z3a u s) = z2r L sk := by
       rw [tp1, List.take_succ_eq_append_getElem (by omega), List.foldl_append, hsk]; rfl
      rw [hi2] at v8 vHm
      have hnt : L.flatMap (fun x => x.kids.filter (atB sk)) = z2r L sk := rfl
      rw [hnt] at v8 vHm
      have g1 : z1m true 8 (z2r L sk).length ((z2r L sk).flatMap z07) = (z2r L sk).map z25 := z8l _ _ rfl
      refine zqr fun K J => ?_
      (simp (disch := omega) only [go_sem, Nat.reduceBEq, ↓reduceIte, Nat.reduceLeDiff, Nat.reduceLT, v5, v8, vH2])
      refine J _ ?_
      clear J K
      refine zqy (ziv _ (zlk (P := Tryz.prog) (id := m) (e := 27) (k := (z2r L sk).length) (cs := (z2r L sk).flatMap z07) (by (simp (disch := omega) only [go_sem, vHm, hm2])) (by decide +kernel) (z9e _)) ?_)
      repeat' (first | ((refine zqr fun K J => ?_); (simp (disch := omega) only [go_sem, Nat.reduceBEq, ↓reduceIte, v35, g1])) | (refine J _ ?_; clear J K))
      (refine Exists.intro _ (And.intro ?_ ⟨k + 1, z2r L sk, false, rfl, ?_⟩)); rotate_left; (simp (disch := omega) only [go_sem, Nat.reduceBEq, v5, v33, v34, v35, vH2, true_and, Int.natCast_add, Int.natCast_one, List.map_cons, List.map_nil, g1, h2m]); rotate_left
      ·omega
      ·exact ⟨by omega, hnx.symm, by omega⟩
    ·skip
     repeat' (first | ((refine zqh fun K J => ?_); (simp (disch := omega) only [go_sem, Nat.reduceBEq, ↓reduceIte, Nat.reduceAdd, t5, t34, t35, tH2])) | ((refine zqd _ rfl (fun hc => ?_) (fun hc => ?_)) <;> (((try simp only [z01] at hc); (try (exfalso; omega))))) | refine zqc ?_ | refine zqn ?_ | refine zqv ?_ | refine zqz ?_ | refine zqp ?_ | refine zqu (by (simp (disch := omega) only [go_sem]); rfl) rfl ?_ | (refine J _ ?_; clear J K))
     have hk2 : k = r.length := by omega
     subst hk2
     rw [List.take_length] at tp1
     rw [goT, <- tp1]
     cases nn with
     | false => exact z09 (z36 L) (Le.refl _)
     | true => exact z09 (z36 L) Le.rsl
   ·have hft : z3a u s = (z0d u).filter (atB s) := if_neg hb
    rw [Bool.not_eq_true] at hb
    rw [hb] at c2
    refine z3g fun K J => ?_
    (simp (disch := omega) only [go_sem, Nat.reduceAdd])
    refine J _ _ (zj2 (b := 2) (e := 25) 27 (by (simp (disch := omega) only [go_sem, Nat.reduceBEq]))) ?_
    clear J K
    repeat' (first | ((first | refine z03 (N := 4) rfl fun K J => ?_ | refine zqs (c2) ?_); (simp (disch := omega) only [go_sem, Nat.reduceBEq, ↓reduceIte, reduceCtorEq, Nat.reduceAdd, List.map_cons, List.length_cons, zln])) | ((refine zqm _ rfl (fun hc => ?_) (fun hc => ?_)) <;> (first | (cases hc; done) | ((try simp only [decide_eq_false_iff_not] at hc); (try (exfalso; omega))))) | refine zqa ?_ | (refine J _ ?_; clear J K))
    repeat' (((refine zqr fun K J => ?_); (simp (disch := omega) only [go_sem, Nat.reduceBEq, ↓reduceIte, Nat.reduceAdd, Nat.reduceLeDiff])))
    have h := zz2 (g := 130) (cap := [.ptr 1 0, .ptr 2 0]) (fun x l => addF s x l) (low_F u (s :: r)) List.length (z0d u).length (fun x l => by unfold addF; split <;> simp) u (zni u hs) (fun x _ l hl => zrg u x s r l (by omega)) [] (by simp)
    rw [zl6, List.nil_append, <- hft] at h
    refine z6w h (Nat.le_refl _) (fun j hj => ?_) fun H1 hs1 _ => ?_
    ·match j, hj with
     | 0, _ => rfl
     | 1, _ => rfl
     | 2, _ => rfl
     | 3, _ => rfl
    have h1 : H1 1 = some (.box 37 [z0a (s :: r)]) := hs1 1 (by omega)
    have h2 : H1 2 = some (.box 25 [.osl 3 (z3a u s).length]) := hs1 2 (by omega)
    have h3 : H1 3 = some (.row 27 (z3a u s).length ((z3a u s).flatMap z07)) := hs1 3 (by omega)
    clear h hs1
    (simp (disch := omega) only [go_sem])
    refine J _ ?_
    clear J K
    repeat' (first | refine zqj ?_ | refine zqv ?_ | refine zqy ?_)
    refine z3g fun K J => ?_
    (try (simp (disch := omega) only [go_sem, Nat.reduceBEq, ↓reduceIte, reduceCtorEq, Nat.reduceAdd, Int.reduceLE, h1, z0a, List.map_cons, List.length_cons])); repeat' skip
    refine J _ _ (zlk (P := Tryz.prog) (id := 3) (e := 27) (k := (z3a u s).length) (cs := (z3a u s).flatMap z07) (by (simp (disch := omega) only [go_sem, h3])) (by decide +kernel) (z9e _)) ?_
    clear J K
    have g0 : z1m true 8 (z3a u s).length ((z3a u s).flatMap z07) = (z3a u s).map z25 := z8l _ _ rfl
    repeat' (refine zqa ?_)
    (refine z3h (fun U st => ∃ (k : _) (L : List T) (nn : Bool), U = r.length - k /\ st.t 5 = .ptr 2 0 /\ st.t 33 = .rsl false 2 (r.map zc3) /\ st.t 34 = .int .i64 r.length /\ st.t 35 = .int .i64 k /\ st.H 2 = some (.box 25 [.rsl nn 8 (L.map z25)]) /\ (k <= r.length) /\ (L = (r.take k).foldl z2r (z3a u s)) /\ (3 <= st.nx)) ?_ ?_); rotate_left; (rintro U st ⟨k, L, nn, rfl, t5, t33, t34, t35, tH2, tp0, tp1, tp2⟩); rotate_left
    ·(refine ⟨_, 0, z3a u s, false, rfl, ?_⟩); (simp (disch := omega) only [go_sem, Nat.reduceBEq, Nat.reduceLeDiff, true_and, and_true, Int.natCast_add, Int.natCast_one, Int.natCast_zero, List.map_nil, g0, h2, Option.map_some])
     exact ⟨rfl, rfl, rfl⟩
    have hLw : z9i L <= 1210000 := by rw [tp1]; exact zam _ _ (zbl hc0)
    by_cases O : k < r.length
    ·obtain ⟨sk, hsk⟩ : ∃ sk, sk = r[k]'O := ⟨_, rfl⟩
     have hLn : (z2r L sk).length <= 1210000 := Nat.le_trans (zal _) (Nat.le_trans (zdz _ _) hLw)
     have hLl : L.length <= 1210000 := Nat.le_trans (zal _) hLw
     have hLm : ∀ x ∈ L, x ∈ z0d u := by rw [tp1]; exact zan _ _ ze0
     repeat' (first | refine zqj ?_ | ((refine zqh fun K J => ?_); (simp (disch := omega) only [go_sem, Nat.reduceBEq, ↓reduceIte, reduceCtorEq, Nat.reduceAdd, Nat.reduceLeDiff, t5, t33, t34, t35, tH2, <- hsk])) | ((refine zqd _ rfl (fun hc => ?_) (fun hc => ?_)) <;> (((try simp only [z01] at hc); (try (exfalso; omega))))) | refine zqa ?_ | refine zqb ?_ | (refine J _ ?_; clear J K))
     (refine z3h (fun U st => ∃ (i : _) (a : Nat) (m : Nat), U = L.length - i /\ st.t 5 = .ptr 2 0 /\ st.t 33 = .rsl false 2 (r.map zc3) /\ st.t 34 = .int .i64 r.length /\ st.t 35 = .int .i64 k /\ st.t 7 = .ptr a 0 /\ st.t 8 = .osl m ((L.take i).flatMap (fun x => x.kids.filter (atB sk))).length /\ st.t 39 = .rsl nn 8 (L.map z25) /\ st.t 40 = .int .i64 L.length /\ st.t 41 = .int .i64 i /\ st.H 2 = some (.box 25 [.rsl nn 8 (L.map z25)]) /\ st.H (a) = some (.box 109 (z3o sk)) /\ st.H (m) = some (.row 27 ((L.take i).flatMap (fun x => x.kids.filter (atB sk))).length (((L.take i).flatMap (fun x => x.kids.filter (atB sk))).flatMap z07)) /\ (i <= L.length) /\ (2 < a) /\ (2 < m) /\ (¬ a = m) /\ (a < st.nx) /\ (m < st.nx)) ?_ ?_); rotate_left; (rintro U st ⟨i, a, m, rfl, v5, v33, v34, v35, v7, v8, v39, v40, v41, vH2, vHa, vHm, vp0, vp1, vp2, vp3, vp4, vp5⟩); rotate_left
     ·(refine ⟨_, 0, st.nx, st.nx + 1, rfl, ?_⟩); (simp (disch := omega) only [go_sem, Nat.reduceBEq, t5, t33, t34, t35, tH2, true_and, Int.natCast_zero, List.flatMap_nil, z3o])
      exact ⟨by omega, by omega, by omega⟩
     have h2m : (2 == m) = false := by simp; omega
     have hm2 : (m == 2) = false := by simp; omega
     have ham : (a == m) = false := by simp; omega
     by_cases hi : i < L.length
     ·have hkl : L[i].kids.length <= 1000000 := (zmg (zdc u hs _ (hLm _ (List.getElem_mem hi)))).1
      repeat' (first | ((refine zqh fun K J => ?_); (simp (disch := omega) only [go_sem, Nat.reduceBEq, ↓reduceIte, reduceCtorEq, Nat.reduceAdd, Nat.reduceLeDiff, v39, v40, v41, z10])) | ((refine zqd _ rfl (fun hc => ?_) (fun hc => ?_)) <;> (((try simp only [z01] at hc); (try (exfalso; omega))))) | refine zqa ?_ | refine zqi ?_ | refine zqb ?_ | (refine J _ ?_; clear J K))
      (refine z3h (fun U st => ∃ (j : _) (b : Nat), U = L[i].kids.length - j /\ st.t 5 = .ptr 2 0 /\ st.t 33 = .rsl false 2 (r.map zc3) /\ st.t 34 = .int .i64 r.length /\ st.t 35 = .int .i64 k /\ st.t 7 = .ptr a 0 /\ st.t 8 = .osl m ((L.take i).flatMap (fun x => x.kids.filter (atB sk)) ++ (L[i].kids.take j).filter (atB sk)).length /\ st.t 39 = .rsl nn 8 (L.map z25) /\ st.t 40 = .int .i64 L.length /\ st.t 41 = .int .i64 i /\ st.t 46 = z10 L[i].kids /\ st.t 47 = .int .i64 L[i].kids.length /\ st.t 48 = .int .i64 j /\ st.H 2 = some (.box 25 [.rsl nn 8 (L.map z25)]) /\ st.H (a) = some (.box 109 (z3o sk)) /\ st.H (m) = some (.row 27 ((L.take i).flatMap (fun x => x.kids.filter (atB sk)) ++ (L[i].kids.take j).filter (atB sk)).length (((L.take i).flatMap (fun x => x.kids.filter (atB sk)) ++ (L[i].kids.take j).filter (atB sk)).flatMap z07)) /\ (j <= L[i].kids.length) /\ (2 < a) /\ (2 < m) /\ (¬ a = m) /\ (a < st.nx) /\ (m < st.nx) /\ (b = 0)) ?_ ?_); rotate_left; (rintro U st ⟨j, b, rfl, w5, w33, w34, w35, w7, w8, w39, w40, w41, w46, w47, w48, wH2, wHa, wHm, wp0, wp1, wp2, wp3, wp4, wp5, wp6⟩); rotate_left
      ·(refine ⟨_, 0, 0, rfl, ?_⟩); (simp (disch := omega) only [go_sem, Nat.reduceBEq, v5, v33, v34, v35, v7, v8, v39, v40, v41, vH2, vHa, vHm, true_and, and_true, and_self, Int.natCast_zero, List.append_nil, z10, List.take_zero, List.filter_nil])
       exact ⟨by omega, by omega, by omega⟩
      have hpt := zji (s := sk) hi j
      rw [List.length_append] at hpt
      by_cases hj : j < L[i].kids.length
      ·have c5 := zff L[i].kids[j] sk
       have htk := List.take_succ_eq_append_getElem hj
       repeat' (first | ((first | refine zqh fun K J => ?_ | refine zqr fun K J => ?_ | refine zqs (c5) ?_); (simp (disch := omega) only [go_sem, Nat.reduceBEq, ↓reduceIte, reduceCtorEq, Nat.reduceAdd, Nat.reduceMul, Nat.reduceLeDiff, w7, w8, w46, w47, w48, wHa, wHm, z10, z3o])) | ((first | refine zqd _ rfl (fun hc => ?_) (fun hc => ?_) | refine zqm _ rfl (fun hc => ?_) (fun hc => ?_)) <;> (((try simp only [z01] at hc); (try (exfalso; omega))))) | refine zqa ?_ | refine zqb ?_ | refine zqk ?_ | refine zqv ?_ | refine zqy ?_ | (refine J _ ?_; clear J K))
       ·have htf : (L[i].kids.take (j + 1)).filter (atB sk) = (L[i].kids.take j).filter (atB sk) ++ [L[i].kids[j]] := by
         rw [htk, List.filter_append, List.filter_cons, if_pos (by assumption)]; rfl
        (refine Exists.intro _ (And.intro ?_ ⟨j + 1, 0, rfl, ?_⟩)); rotate_left; (simp (disch := omega) only [go_sem, Nat.reduceBEq, w5, w33, w34, w35, w7, w8, w39, w40, w41, w46, w47, w48, wH2, wHa, wHm, true_and, and_true, and_self, Int.natCast_add, Int.natCast_one, List.flatMap_append, List.flatMap_cons, List.flatMap_nil, List.append_nil, htf, h2m, ham, List.length_append, List.length_cons, List.length_nil, Nat.add_assoc, List.append_assoc]); rotate_left
        ·omega
        ·repeat' (omega)
       ·have htf : (L[i].kids.take (j + 1)).filter (atB sk) = (L[i].kids.take j).filter (atB sk) := by
         rw [htk, List.filter_append, List.filter_cons, if_neg (by rw [‹atB sk L[i].kids[j] = false›]; simp), List.filter_nil, List.append_nil]
        (refine Exists.intro _ (And.intro ?_ ⟨j + 1, 0, rfl, ?_⟩)); rotate_left; (simp (disch := omega) only [go_sem, Nat.reduceBEq, w5, w33, w34, w35, w7, w8, w39, w40, w41, w46, w47, w48, wH2, wHa, wHm, true_and, and_true, and_self, Int.natCast_add, Int.natCast_one, List.flatMap_append, htf]); rotate_left
        ·omega
        ·repeat' (omega)
      ·repeat' (first | ((first | refine zqh fun K J => ?_ | refine zqr fun K J => ?_); (simp (disch := omega) only [go_sem, Nat.reduceBEq, ↓reduceIte, w41, w47, w48])) | ((refine zqd _ rfl (fun hc => ?_) (fun hc => ?_)) <;> (((try simp only [z01] at hc); (try (exfalso; omega))))) | refine zqc ?_ | refine zqv ?_ | refine zqy ?_ | refine zqz ?_ | refine zqp ?_ | (refine J _ ?_; clear J K))
       have hj2 : L[i].kids.take j = L[i].kids := List.take_of_length_le (by omega)
       have htk : (L.take (i + 1)).flatMap (fun x => x.kids.filter (atB sk)) = (L.take i).flatMap (fun x => x.kids.filter (atB sk)) ++ L[i].kids.filter (atB sk) := by
        rw [List.take_succ_eq_append_getElem hi, List.flatMap_append, List.flatMap_cons, List.flatMap_nil, List.append_nil]
       rw [hj2, <- htk] at w8 wHm
       (refine Exists.intro _ (And.intro ?_ ⟨i + 1, a, m, rfl, ?_⟩)); rotate_left; (simp (disch := omega) only [go_sem, Nat.reduceBEq, w5, w33, w34, w35, w7, w8, w39, w40, w41, wH2, wHa, wHm, true_and, Int.natCast_add, Int.natCast_one]); rotate_left
       ·omega
       ·repeat' (omega)
     ·skip
      repeat' (first | ((refine z03 (N := 23) rfl fun K J => ?_); (simp (disch := omega) only [go_sem, ↓reduceIte, v40, v41])) | ((refine zqd _ rfl (fun hc => ?_) (fun hc => ?_)) <;> (((try simp only [z01] at hc); (try (exfalso; omega))))) | refine zqc ?_ | refine zqv ?_ | refine zqz ?_ | refine zqp ?_ | (refine J _ ?_; clear J K))
      have hi2 : L.take i = L := List.take_of_length_le (by omega)
      have hnx : (r.take (k + 1)).foldl z2r (z3a u s) = z2r L sk := by
       rw [tp1, List.take_succ_eq_append_getElem (by omega), List.foldl_append, hsk]; rfl
      rw [hi2] at v8 vHm
      have hnt : L.flatMap (fun x => x.kids.filter (atB sk)) = z2r L sk := rfl
      rw [hnt] at v8 vHm
      have g1 : z1m true 8 (z2r L sk).length ((z2r L sk).flatMap z07) = (z2r L sk).map z25 := z8l _ _ rfl
      refine zqr fun K J => ?_
      (simp (disch := omega) only [go_sem, Nat.reduceBEq, ↓reduceIte, Nat.reduceLeDiff, Nat.reduceLT, v5, v8, vH2])
      refine J _ ?_
      clear J K
      refine zqy (ziv _ (zlk (P := Tryz.prog) (id := m) (e := 27) (k := (z2r L sk).length) (cs := (z2r L sk).flatMap z07) (by (simp (disch := omega) only [go_sem, vHm, hm2])) (by decide +kernel) (z9e _)) ?_)
      repeat' (first | ((refine zqr fun K J => ?_); (simp (disch := omega) only [go_sem, Nat.reduceBEq, ↓reduceIte, v35, g1])) | (refine J _ ?_; clear J K))
      (refine Exists.intro _ (And.intro ?_ ⟨k + 1, z2r L sk, false, rfl, ?_⟩)); rotate_left; (simp (disch := omega) only [go_sem, Nat.reduceBEq, v5, v33, v34, v35, vH2, true_and, Int.natCast_add, Int.natCast_one, List.map_cons, List.map_nil, g1, h2m]); rotate_left
      ·omega
      ·exact ⟨by omega, hnx.symm, by omega⟩
    ·skip
     repeat' (first | ((refine zqh fun K J => ?_); (simp (disch := omega) only [go_sem, Nat.reduceBEq, ↓reduceIte, Nat.reduceAdd, t5, t34, t35, tH2])) | ((refine zqd _ rfl (fun hc => ?_) (fun hc => ?_)) <;> (((try simp only [z01] at hc); (try (exfalso; omega))))) | refine zqc ?_ | refine zqn ?_ | refine zqv ?_ | refine zqz ?_ | refine zqp ?_ | refine zqu (by (simp (disch := omega) only [go_sem]); rfl) rfl ?_ | (refine J _ ?_; clear J K))
     have hk2 : k = r.length := by omega
     subst hk2
     rw [List.take_length] at tp1
     rw [goT, <- tp1]
     cases nn with
     | false => exact z09 (z36 L) (Le.refl _)
     | true => exact z09 (z36 L) Le.rsl

 ·rw [Bool.not_eq_true] at hv
  rw [hv] at c1
  unfold z47
  rw [if_neg (by rw [hv]; simp)]
  repeat' (first | refine zqj ?_ | ((first | refine zqh fun K J => ?_ | refine zqs (c1) ?_); (simp (disch := omega) only [go_sem, Nat.reduceBEq, ↓reduceIte, Nat.reduceAdd, z0a])) | ((refine zqd _ rfl (fun hc => ?_) (fun hc => ?_)) <;> (first | (cases hc; done) | ((try simp only [] at hc); (try (exfalso; omega))))) | refine zqg ?_ | refine zqu (by (simp (disch := omega) only [go_sem]); rfl) rfl ?_ | (refine J _ ?_; clear J K))
  exact z09 rfl (Le.nil 8)
theorem zeu (u : T) (hs : szB u = true) (hc : cntT u <= 1100) (p : List Stp) (hl : p.length <= maxLen) (hps : ∀ s ∈ p, s.label.size <= maxLen) : PC Tryz.prog 18 [z25 u, z0a p] (z0o (z5d u p)) := by
 have c1 := zyf u hs hc p hl hps
 have hn := zs5 (u := u) (p := p) hc
 refine z1y 2 (by simp only [pureD.pureL, z05, z1e, Bool.and_self]) (z7g _) (z1v [5] Tryz.func18 rfl (by decide +kernel) z0i (by decide +kernel) (by simp [Tryz.ntmps18]) ?_)
 show awp _ _ (Code.seq _ _) _ _
 repeat' (first | refine zqj ?_ | ((first | refine zqh fun K J => ?_ | refine zqs (c1) ?_); (simp (disch := omega) only [go_sem, Nat.reduceBEq, ↓reduceIte, Nat.reduceAdd, Nat.reduceLeDiff])) | refine zqa ?_ | (refine J _ ?_; clear J K))
 (refine z3h (fun U st => ∃ (k : _), U = (z47 u p).length - k /\ st.t 5 = .osl 1 k /\ st.t 10 = z10 (z47 u p) /\ st.t 11 = .int .i64 (z47 u p).length /\ st.t 12 = .int .i64 k /\ st.H 1 = some (.row 23 k ((((z47 u p).take k).map T.id).flatMap z08)) /\ (k <= (z47 u p).length) /\ (2 <= st.nx)) ?_ ?_); rotate_left; (rintro U st ⟨k, rfl, q5, q10, q11, q12, qH1, qp0, qp1⟩); rotate_left
 ·(refine ⟨_, 0, rfl, ?_⟩); (simp (disch := omega) only [go_sem, Nat.reduceBEq, Nat.reduceLeDiff, and_self, Int.natCast_zero, List.flatMap_nil, List.map_nil, z10])
  try simp
 by_cases O : k < (z47 u p).length
 ·have htk := List.take_succ_eq_append_getElem O
  repeat' (first | ((first | refine zqh fun K J => ?_ | refine zqr fun K J => ?_); (simp (disch := omega) only [go_sem, Nat.reduceBEq, ↓reduceIte, reduceCtorEq, Nat.reduceAdd, Nat.reduceMul, Nat.reduceLeDiff, q5, q10, q11, q12, qH1, z10])) | ((refine zqd _ rfl (fun hc => ?_) (fun hc => ?_)) <;> (((try simp only [z01] at hc); (try (exfalso; omega))))) | refine zqa ?_ | refine zqb ?_ | refine zqv ?_ | refine zqy ?_ | (refine J _ ?_; clear J K))
  (refine Exists.intro _ (And.intro ?_ ⟨k + 1, rfl, ?_⟩)); rotate_left; (simp (disch := omega) only [go_sem, Nat.reduceBEq, Nat.reduceLeDiff, q5, q10, q11, q12, qH1, true_and, Int.natCast_add, Int.natCast_one, List.flatMap_append, List.flatMap_cons, List.flatMap_nil, List.map_append, List.map_cons, List.map_nil, List.append_nil, htk, z08]); rotate_left
  ·omega
  ·omega
 ·repeat' (first | ((refine zqh fun K J => ?_); (simp (disch := omega) only [go_sem, Nat.reduceBEq, ↓reduceIte, q5, q11, q12])) | ((refine zqd _ rfl (fun hc => ?_) (fun hc => ?_)) <;> (((try simp only [z01] at hc); (try (exfalso; omega))))) | refine zqc ?_ | refine zqn ?_ | refine zqv ?_ | refine zqz ?_ | refine zqp ?_ | refine zqu (by (simp (disch := omega) only [go_sem]); rfl) rfl ?_ | (refine J _ ?_; clear J K))
  have hk2 : k = (z47 u p).length := by omega
  subst hk2
  rw [List.take_length] at qH1
  have hl2 : (z47 u p).length = ((z47 u p).map T.id).length := by simp
  rw [hl2] at qH1 ⊢
  exact z6u (z2w (l := (z47 u p).map T.id) 0 qH1 z7n zbw (fun _ => rfl) (fun _ => rfl))
theorem zev (u : T) (hs : szB u = true) (hc : cntT u <= 1100) (p : List Stp) (hl : p.length <= maxLen) (hps : ∀ s ∈ p, s.label.size <= maxLen) : PC Tryz.prog 14 [z25 u, z0a p] (.tup [z6x (zl8 u p).1, .int .i64 (zl8 u p).2]) := by
 have c1 := zeu u hs hc p hl hps
 refine z1y 3 (by simp only [pureD.pureL, z05, z1e, Bool.and_self]) rfl (z1v [] Tryz.func14 rfl (by decide +kernel) z0i (by decide +kernel) (by simp [Tryz.ntmps14]) ?_)
 show awp _ _ (Code.seq _ _) _ _
 rw [show Tryz.f14.results.toList = [.cell 4 23, .tmp 5] from rfl]
 have hz : Int.toNat 0 = 0 := rfl
 rcases Nat.lt_trichotomy (z5d u p).length 1 with h | h | h
 ·have h0 : z5d u p = [] := List.eq_nil_of_length_eq_zero (by omega)
  rw [z005 h0]
  rw [h0] at c1
  repeat' (first | refine zqj ?_ | ((first | refine zqh fun K J => ?_ | refine zqs (c1) ?_); (simp (disch := omega) only [go_sem, Nat.reduceBEq, ↓reduceIte, Nat.reduceAdd, Nat.reduceLeDiff, z0o])) | ((refine zqm _ rfl (fun hc => ?_) (fun hc => ?_)) <;> (first | (cases hc; done) | ((try simp only [decide_eq_true_eq] at hc); (try (exfalso; omega))))) | refine zqa ?_ | refine zqn ?_ | refine zqx ?_ | refine z23 ?_ | refine zqu (by (simp (disch := omega) only [go_sem, Nat.reduceBEq, ↓reduceIte, Nat.reduceAdd, Nat.reduceLeDiff]); rfl) rfl ?_ | (refine J _ ?_; clear J K))
  exact z09 rfl (Le.refl _)
 ·rw [z006 h]
  obtain ⟨i, hi⟩ : ∃ i, z5d u p = [i] := List.length_eq_one_iff.1 h
  have hg : (z5d u p)[0]'(by omega) = i := by simp only [hi, List.getElem_cons_zero]
  rw [hg]
  rw [hi] at c1
  repeat' (first | refine zqj ?_ | ((first | refine zqh fun K J => ?_ | refine zqs (c1) ?_); (simp (disch := omega) only [go_sem, Nat.reduceBEq, ↓reduceIte, reduceCtorEq, Nat.reduceAdd, Nat.reduceLeDiff, z0o, zln, List.map_cons, List.map_nil])) | ((refine zqm _ rfl (fun hc => ?_) (fun hc => ?_)) <;> (first | (cases hc; done) | ((try simp only [z01] at hc); (try (exfalso; omega))))) | refine zqa ?_ | refine zqn ?_ | refine zqx ?_ | refine z23 ?_ | refine zqu (by (simp (disch := omega) only [go_sem, Nat.reduceBEq, ↓reduceIte, Nat.reduceAdd, Nat.reduceLeDiff]); rfl) rfl ?_ | (refine J _ ?_; clear J K))
  exact z09 rfl (Le.refl _)
 ·rw [z007 h]
  have hne : ¬ (z5d u p).length = 0 := by omega
  repeat' (first | refine zqj ?_ | ((first | refine zqh fun K J => ?_ | refine zqs (c1) ?_); (simp (disch := omega) only [go_sem, Nat.reduceBEq, ↓reduceIte, Nat.reduceAdd, Nat.reduceLeDiff, z0o])) | ((refine zqm _ rfl (fun hc => ?_) (fun hc => ?_)) <;> (((try simp only [z01] at hc); (try (exfalso; omega))))) | refine zqa ?_ | refine zqk ?_ | refine zqn ?_ | refine zqv ?_ | refine zqy ?_ | refine zqu (by (simp (disch := omega) only [go_sem, Nat.reduceBEq, ↓reduceIte, Nat.reduceAdd, Nat.reduceLeDiff]); rfl) rfl ?_ | (refine J _ ?_; clear J K))
  exact z09 rfl (Le.refl _)
end
section
open Abs Facts Tr
attribute [local irreducible] awp
set_option maxRecDepth 100000
section
variable {to id own i : Idv} {w n z e : Int} {anc : List Idv} {ok : Bool}
end
end
section
open Abs Facts Tr
attribute [local irreducible] awp
set_option maxRecDepth 100000
end
section
open Abs Facts Tr
namespace Tr
def zvg (u : T) (most : Int) : Bool := zz4 u most && (decide (u.kind = 0) && (z6z u && (decide (u.kids.length = 0) || !decide ((u.kids.headD u).id = u.id))))
theorem zm4 {u : T} {most : Int} (h : zvg u most = true) : z15 u = true := by
 unfold zvg z6z zze at h
 simp only [Bool.and_eq_true, decide_eq_true_eq, Bool.or_eq_true, Bool.not_eq_true', decide_eq_false_iff_not] at h
 obtain ⟨_, h0, ⟨h1, h2, h3, h4⟩, h5⟩ := h
 rw [z28]
 refine ⟨h1, h2, h3, ?_⟩
 rcases h4 with h4 | ⟨h4, h6⟩
 ·have ha : ∀ i ∈ z0e u, i = Idv.zero := fun i hi => by simpa using List.all_eq_true.1 h4 i hi
  have hz : u.id = Idv.zero := ha _ (z1s u)
  have O : u.kids = [] := by
   cases O : u.kids with
   | nil => rfl
   | cons k l =>
    exfalso
    rw [O] at h5
    rcases h5 with h5 | h5
    ·simp at h5
    ·refine h5 ?_
     rw [hz]
     show k.id = _
     refine ha _ ?_
     rw [z1z, O]
     exact List.mem_cons_of_mem _ (List.mem_flatMap.2 ⟨k, by simp, z1s k⟩)
  rw [z1z, O]
  exact ⟨by simp, ⟨fun _ => h0, fun _ => hz⟩, by simp⟩
 ·refine ⟨h6, h4, fun hm => ?_⟩
  have hz := h4.2 h0
  rw [z1z, List.nodup_cons] at h6
  exact h6.1 (hz ▸ hm)
theorem moved {u : T} {id to : Idv} {wh : Int} (hs : z15 u = true) (hm : id ∈ z0e u) (ht : to ∈ z0e u) (h : zh3 u id to wh = 0) : ∃ (under : Idv) (n : Nat), z5e id u = (under, (n : Int), true) /\ z15 (z8i u id to wh) = true /\ id ∈ z0e (z8i u id to wh) /\ ¬ (z8i u id to wh).id = id /\
  zkf (z8i u id to wh) id under n = 0 /\ z4n under (zcv n (z0c id (z8i u id to wh)).1) (z0l id (z8i u id to wh)) = u /\ cntT (z8i u id to wh) = cntT u := by
 obtain ⟨a1, a2, a3⟩ := zsc hs hm ht h
 unfold z8i
 by_cases he : to = id
 ·rw [if_neg (fun g => g.2 he)]
  obtain ⟨under, n, x, d1, d2, d3, d4, d5, d6, d7, d8, d9, d10, d11, d12⟩ := z52 hs a1 hm
  refine ⟨under, n, d1, hs, hm, a1, zex hs d2 (zdf id u under d10) a1 (fun hc => d9 under hc d10) d7, ?_, rfl⟩
  rw [d2]; exact d8
 ·rw [if_pos ⟨h, he⟩]
  obtain ⟨c1, c2, c3⟩ := a3 he
  obtain ⟨under, n, m1, m2, m3, m4, m5, m6⟩ := zp6 c3
  obtain ⟨_, y1, _, y3, _⟩ := zvo m3
  exact ⟨under, n, m1, m5, y1, y3, m3, m4, m6⟩
end Tr
namespace Tr
theorem cap_len {s : ByteArray} (h : z3c s = true) : s.size <= 7 := by
 unfold z3c at h
 simp only [Bool.and_eq_true, decide_eq_true_eq] at h
 omega
theorem ztu {l : List Wd} (h : zl7 l = true) : l.length <= 256 /\ ∀ w ∈ l, w.text.size <= 24 := by
 unfold zl7 at h
 simp only [Bool.and_eq_true, decide_eq_true_eq, List.all_eq_true] at h
 refine ⟨h.1, fun w hw => ?_⟩
 have := h.2 w hw
 unfold z87 at this
 simp only [Bool.and_eq_true, decide_eq_true_eq] at this
 omega
theorem zxo : ∀ t : T, z33 t = true -> szB t = true := by
 refine z55 fun t ih h => ?_
 rw [z4y] at h
 simp only [Bool.and_eq_true, List.all_eq_true] at h
 obtain ⟨ha, _, O, _⟩ := h
 unfold z40 at ha
 simp only [Bool.and_eq_true, decide_eq_true_eq] at ha
 obtain ⟨_, h1, h2, h3, h4⟩ := ha
 obtain ⟨a1, a2⟩ := ztu h2
 obtain ⟨b1, b2⟩ := ztu h3
 refine (z2e t).2 ⟨?_, by omega, fun w hw => by have := a2 w hw; omega, by omega, fun w hw => by have := b2 w hw; omega, by omega, fun k hk' => ih k hk' (O k hk')⟩
 split at h4
 ·simp only [Bool.and_eq_true, decide_eq_true_eq] at h4
  rw [h4.1]; decide
 ·have := cap_len h4; omega
theorem zjn {t : T} (h : z15 t = true) : szB t = true /\ cntT t <= 1024 /\ depT t <= 8 :=
 ⟨zxo t ((z28 t).1 h).1, ((z28 t).1 h).2.2.1, ((z28 t).1 h).2.1⟩
end Tr
end
section
open Abs Facts Tr
attribute [local irreducible] awp
set_option maxRecDepth 100000
namespace Tr
end Tr
end
end Go.Proofs.YtppebcifiejplaaGreatDoor
namespace Go.Proofs.YtppebcifiejplaaGreatDoor.Abs
theorem zkb {P : Program} {own : List Nat} {a b : Code} {Q : Exit -> St -> Prop} {st : St} (I : St -> Prop) (h2 : awp P own a (znr I Q) st) (h1 : ∀ st, I st -> awp P own b Q st) : awp P own (.seq a b) Q st :=
 z5n a _ _ st (zka (fun st h => ⟨st, SealTo.refl st, h1 st h⟩) (fun _ _ h => h)) h2
theorem zhm {P : Program} {own : List Nat} {a b c : Code} {Q : Exit -> St -> Prop} {st : St} (I : St -> Prop) (h2 : awp P own (.seq a b) (znr I Q) st) (h1 : ∀ st, I st -> awp P own c Q st) : awp P own (.seq a (.seq b c)) Q st :=
 z5n a _ _ st (fun e st h => by
  cases e with
  | normal => obtain ⟨st', hs, h⟩ := h; exact ⟨st', hs, zkb I h h1⟩
  | _ => exact h) h2
theorem zzl {I : St -> Prop} {Q : Exit -> St -> Prop} {st : St} (h : I st) : znr I Q .normal st := h
end Go.Proofs.YtppebcifiejplaaGreatDoor.Abs
namespace Go.Proofs.YtppebcifiejplaaGreatDoor
section
open Abs Facts Tr
attribute [local irreducible] awp
set_option maxRecDepth 100000
namespace Tr
end Tr
end
section
open Abs Facts Tr
namespace Tr
def zw6 (row : List ByteArray) : List ByteArray -> Nat -> Nat -> List Nat
 | [], _, _ => []
 | _ :: r, s + 1, i => zw6 row r s (i + 1)
 | x :: r, 0, i => if (x :: r).take row.length = row then i :: zw6 row r (row.length - 1) (i + 1) else zw6 row r 0 (i + 1)
theorem zn6 (row : List ByteArray) : ∀ (l : List ByteArray) (s i : Nat), zw6 row l s i = zw6 row (l.drop s) 0 (i + s)
 | [], s, i => by simp [zw6]
 | x :: r, 0, i => rfl
 | x :: r, s + 1, i => by
  rw [zw6, zn6 row r s (i + 1), List.drop_succ_cons, show i + 1 + s = i + (s + 1) from by omega]
def zhz (w row : List ByteArray) (i : Nat) : List Nat := zw6 row (w.drop i) 0 i
theorem zt4 {w row : List ByteArray} {i : Nat} (h : w.length <= i) : zhz w row i = [] := by
 unfold zhz
 rw [List.drop_of_length_le h]; rfl
theorem occ_yes {w row : List ByteArray} {i : Nat} (h : i < w.length) (hr : 0 < row.length) (hb : (w.drop i).take row.length = row) : zhz w row i = i :: zhz w row (i + row.length) := by
 unfold zhz
 rw [List.drop_eq_getElem_cons h] at hb ⊢
 rw [zw6, if_pos hb, zn6, List.drop_drop, show i + 1 + (row.length - 1) = i + row.length from by omega]
theorem occ_no {w row : List ByteArray} {i : Nat} (h : i < w.length) (hb : ¬ (w.drop i).take row.length = row) : zhz w row i = zhz w row (i + 1) := by
 unfold zhz
 rw [List.drop_eq_getElem_cons h] at hb ⊢
 rw [zw6, if_neg hb]
theorem zt5 {w row : List ByteArray} {i : Nat} (hr : 0 < row.length) (h : w.length < i + row.length) : ¬ (w.drop i).take row.length = row := fun e => by
 have := congrArg List.length e
 simp only [List.length_take, List.length_drop] at this
 omega
theorem occ_in {w row : List ByteArray} (hr : 0 < row.length) : ∀ (k i : Nat), w.length - i <= k -> (∀ p ∈ zhz w row i, i <= p /\ p + row.length <= w.length) /\ (zhz w row i).Pairwise (fun a b => a + row.length <= b) /\ (zhz w row i).length <= w.length - i := by
 intro k
 induction k with
 | zero =>
  intro i h
  rw [zt4 (by omega)]
  exact ⟨fun p hp => (by cases hp), .nil, Nat.zero_le _⟩
 | succ k ih =>
  intro i h
  by_cases hi : i < w.length
  ·by_cases hb : (w.drop i).take row.length = row
   ·rw [occ_yes hi hr hb]
    obtain ⟨a1, a2, a3⟩ := ih (i + row.length) (by omega)
    have hle : i + row.length <= w.length := by
     rcases Nat.lt_or_ge w.length (i + row.length) with g | g
     ·exact (zt5 hr g hb).elim
     ·exact g
    refine ⟨fun p hp => ?_, .cons (fun p hp => (a1 p hp).1) a2, by rw [List.length_cons]; omega⟩
    rcases List.mem_cons.1 hp with rfl | hp
    ·exact ⟨Nat.le_refl _, hle⟩
    ·exact ⟨by have := (a1 p hp).1; omega, (a1 p hp).2⟩
   ·rw [occ_no hi hb]
    obtain ⟨a1, a2, a3⟩ := ih (i + 1) (by omega)
    exact ⟨fun p hp => ⟨by have := (a1 p hp).1; omega, (a1 p hp).2⟩, a2, by omega⟩
  ·rw [zt4 (by omega)]
   exact ⟨fun p hp => (by cases hp), .nil, Nat.zero_le _⟩
def zox (w : List Wd) (k : Nat) (put : Bool) (new : List ByteArray) (a j : Int) (nth : Int) : List Nat -> Nat -> Nat -> Nat -> List Wd
 | [], _, o, _ => w.drop o
 | p :: q, i, o, m => if ¬ nth = 0 /\ ¬ nth = (i : Int) + 1 then zox w k put new a j nth q (i + 1) o m
  else (w.take p).drop o ++ (if put = true then (w.take (p + k)).drop p else []) ++ zww new a j m ++ zox w k put new a j nth q (i + 1) (p + k) (m + new.length)
def ze8 (w : List Wd) (gone : Nat) (new : List ByteArray) (a j : Int) : List Nat -> Nat -> Nat -> List Wd
 | [], _, o => w.drop o
 | p :: q, i, o => (w.take p).drop o ++ (zww new a j (i * new.length) ++ ze8 w gone new a j q (i + 1) (p + gone))
def zt6 (nth : Int) (l : List Nat) : List Nat := if nth = 0 then l else if (l.length : Int) < nth then [] else (l.drop (nth - 1).toNat).take 1
theorem zn7 {w : List Wd} {k : Nat} {put : Bool} {new : List ByteArray} {a j nth : Int} : ∀ (q : List Nat) (i o m : Nat), ¬ nth = 0 -> (nth <= i \/ (i : Int) + q.length < nth) -> zox w k put new a j nth q i o m = w.drop o
 | [], i, o, m, _, _ => rfl
 | p :: q, i, o, m, h0, h => by
  simp only [List.length_cons] at h
  rw [zox, if_pos ⟨h0, by omega⟩]
  exact zn7 q (i + 1) o m h0 (by omega)
theorem zt7 {w : List Wd} {k : Nat} {put : Bool} {new : List ByteArray} {a j : Int} : ∀ (q : List Nat) (i n m : Nat) (h : n < q.length), zox w k put new a j ((i + n : Nat) + 1 : Int) q i 0 m = (w.take q[n]).drop 0 ++ (if put = true then (w.take (q[n] + k)).drop q[n] else []) ++ zww new a j m ++ w.drop (q[n] + k)
 | p :: q, i, 0, m, h => by
  rw [zox, if_neg (by omega), zn7 q (i + 1) (p + k) (m + new.length) (by omega) (.inl (by omega))]
  rfl
 | p :: q, i, n + 1, m, h => by
  rw [zox, if_pos ⟨by omega, by omega⟩, show (((i + (n + 1) : Nat) : Int) + 1) = (((i + 1) + n : Nat) : Int) + 1 from by omega]
  rw [zt7 q (i + 1) n m (by simpa using h)]
  rfl
theorem zj4 {w : List Wd} {o p k : Nat} (h1 : o <= p) (h2 : p + k <= w.length) : (w.take p).drop o ++ (w.take (p + k)).drop p = (w.take (p + k)).drop o := by
 conv => rhs; rw [<- List.take_append_drop (p - o) ((w.take (p + k)).drop o)]
 congr 1
 ·rw [List.take_drop, List.take_take]
  congr 2
  omega
 ·rw [List.drop_drop]
  congr 1
  omega
theorem zj5 {w : List Wd} {k : Nat} {new : List ByteArray} {a j : Int} : ∀ (q : List Nat) (i o : Nat), zox w k false new a j 0 q i o (i * new.length) = ze8 w k new a j q i o
 | [], i, o => rfl
 | p :: q, i, o => by
  rw [zox, if_neg (by simp), ze8, if_neg (by decide), List.append_nil, <- zj5 q (i + 1) (p + k), List.append_assoc, show i * new.length + new.length = (i + 1) * new.length from by rw [Nat.add_mul, Nat.one_mul]]
theorem zj6 {w : List Wd} {k : Nat} {new : List ByteArray} {a j : Int} : ∀ (q : List Nat) (i o : Nat), (∀ p ∈ q, o <= p /\ p + k <= w.length) -> q.Pairwise (fun a b => a + k <= b) -> zox w k true new a j 0 q i o (i * new.length) = ze8 w 0 new a j (q.map (· + k)) i o
 | [], i, o, _, _ => rfl
 | p :: q, i, o, h, hp => by
  rw [List.pairwise_cons] at hp
  have h0 := h p (by simp)
  rw [zox, if_neg (by simp), List.map_cons, ze8, if_pos rfl, zj4 h0.1 h0.2, List.append_assoc, show i * new.length + new.length = (i + 1) * new.length from by rw [Nat.add_mul, Nat.one_mul],
   zj6 q (i + 1) (p + k) (fun x hx => ⟨hp.1 x hx, (h x (by simp [hx])).2⟩) hp.2]
  rfl
theorem zxa {w : List Wd} {k : Nat} {put : Bool} {new : List ByteArray} {a j nth : Int} {l : List Nat} (hn : 0 <= nth) (hl : ¬ (l.length : Int) < nth) (hi : ∀ p ∈ l, p + k <= w.length) (hp : l.Pairwise (fun a b => a + k <= b)) :
  zox w k put new a j nth l 0 0 0 = if put = true then ze8 w 0 new a j ((zt6 nth l).map (· + k)) 0 0 else ze8 w k new a j (zt6 nth l) 0 0 := by
 unfold zt6
 by_cases h0 : nth = 0
 ·subst h0
  rw [if_pos rfl]
  cases put with
  | false => have := zj5 (w := w) (k := k) (new := new) (a := a) (j := j) l 0 0; rw [Nat.zero_mul] at this; rw [this]; rfl
  | true => have := zj6 (w := w) (k := k) (new := new) (a := a) (j := j) l 0 0 (fun p hp => ⟨Nat.zero_le _, hi p hp⟩) hp; rw [Nat.zero_mul] at this; rw [this]; rfl
 ·rw [if_neg h0, if_neg hl]
  obtain ⟨n, rfl⟩ : ∃ n : Nat, nth = (n : Int) + 1 := ⟨(nth - 1).toNat, by omega⟩
  have hlt : n < l.length := by omega
  have h1 := zt7 (w := w) (k := k) (put := put) (new := new) (a := a) (j := j) l 0 n 0 hlt
  rw [Nat.zero_add] at h1
  rw [h1, show ((n : Int) + 1 - 1).toNat = n from by omega, List.drop_eq_getElem_cons hlt, List.take_succ_cons, List.take_zero]
  cases put with
  | false => simp only [Bool.false_eq_true, if_false, List.append_nil, ze8, Nat.zero_mul, List.append_assoc]
  | true =>
   simp only [if_true, List.map_cons, List.map_nil, ze8, Nat.zero_mul, Nat.add_zero]
   rw [zj4 (Nat.zero_le _) (hi _ (List.getElem_mem hlt)), List.append_assoc]
def txt (w : List Wd) : List ByteArray := w.map (·.text)
def zt8 (w : List Wd) (x : It) (a i : Int) : List Wd :=
 if x.kind = 3 /\ x.old.length = 0 then zww x.new a i 0 ++ w else zox w x.old.length (decide (x.kind = 3)) x.new a i x.nth (zhz (txt w) x.old 0) 0 0 0
def editE (w : List Wd) (x : It) (a i : Int) : Int :=
 if x.kind = 3 /\ x.old.length = 0 then (if 256 < (zt8 w x a i).length then 6 else 0) else
 if (zhz (txt w) x.old 0).length = 0 \/ ((zhz (txt w) x.old 0).length : Int) < x.nth then 4 else
 if 256 < (zt8 w x a i).length then 6 else 0
end Tr
end
end Go.Proofs.YtppebcifiejplaaGreatDoor
namespace Go.Proofs.YtppebcifiejplaaGreatDoor.Abs
open Go.RowKit
variable {P : Program}
end Go.Proofs.YtppebcifiejplaaGreatDoor.Abs
namespace Go.Proofs.YtppebcifiejplaaGreatDoor.Abs
open Go.RowKit
variable {P : Program}
def noBox : HObj -> Bool
 | .box .. => false
 | _ => true
theorem zp3 (st : St) {objs : List HObj} (hr : objs.all noBox = true) : z88 st (zsy st.H st.nx objs) (st.nx + objs.length) := by
 refine ⟨Nat.le_add_right _ _, fun id => ⟨fun hlt e cs h => ?_, fun hlt e cs h => ?_⟩⟩
 ·rw [zh8, if_neg (by omega)]; exact h
 ·rw [zh8] at h
  split at h
  ·obtain ⟨hl, he⟩ := List.getElem?_eq_some_iff.1 h
   have := List.all_eq_true.1 hr _ (List.getElem_mem hl)
   rw [he] at this; cases this
  ·exact ⟨by omega, h⟩
theorem z5i {own : List Nat} {objs : List HObj} {r : D} {n : FuncId} {args cap : List D} {g : List Oper -> (St -> Prop) -> St -> Prop} {rest : List Oper} {K : St -> Prop} {st : St} {dst : Option Nat} (h : OC P n (args ++ cap) objs r) (h0 : z0h 5000000 own dst = false) (hm : z0h 4000000 own dst = true) (hr : objs.all noBox = true)
  (O : g rest K ((st.withH (zsy st.H st.nx objs) (st.nx + objs.length)).put dst (renD (fun j => st.nx + j) r))) (ht : tcM own dst = none := by rfl) (hN : z0h 10000000 own dst = false := by rfl) : zyd P own (.fn n cap) args g rest K st dst :=
 .inr (.inr ⟨h0, hm, _, _, _, h.2.2.2 st.H st.nx, .inl ⟨ht, .inl ⟨hN, zp3 st hr⟩⟩, O⟩)
end Go.Proofs.YtppebcifiejplaaGreatDoor.Abs
namespace Go.Proofs.YtppebcifiejplaaGreatDoor.Abs
open Go.RowKit
variable {P : Program}
def Sem (P : Program) (N : Nat) (c : Code) (Q : Exit -> St -> Prop) (st : St) : Prop :=
 ∀ s0 w0 s a w, Fr P N st s a w -> Step s0 w0 s w -> c.wp P (lift P N s0 w0 Q) a w
theorem Sem.walk {N : Nat} {own : List Nat} {c : Code} {Q : Exit -> St -> Prop} {st : St} (hm : P.follows .mixedOrders = true) (hok : z85 N c = true) (h : awp P own c Q st) : Sem P N c Q st :=
 fun _ _ s a w hf hs => z50 hm c Q st s a w hok h hf hs
theorem Sem.seq {N : Nat} {x y : Code} {Q : Exit -> St -> Prop} {st : St} (h : Sem P N x (znr (fun st => Sem P N y Q st) Q) st) : Sem P N (.seq x y) Q st := by
 intro s0 w0 s a w hf hs
 refine wp_seq (wp_mono (h s0 w0 s a w hf hs) ?_)
 rintro e a' w' ⟨st', s', hq, hf', hs'⟩
 cases e with
 | normal => exact hq s0 w0 s' a' w' hf' hs'
 | exit id => exact ⟨st', s', hq, hf', hs'⟩
 | goto l => exact ⟨st', s', hq, hf', hs'⟩
 | ret => exact ⟨st', s', hq, hf', hs'⟩
 | panic ch => exact ⟨st', s', hq, hf', hs'⟩
 | outgrown => exact ⟨st', s', hq, hf', hs'⟩
theorem Sem.cond {N : Nat} {c : Operand} {x y : Code} {Q : Exit -> St -> Prop} {st : St} (t : Bool) (ht : st.ev c = .bool t) (h1 : t = true -> Sem P N x Q st) (h2 : t = false -> Sem P N y Q st) : Sem P N (.cond c x y) Q st := by
 intro s0 w0 s a w hf hs
 have hv := hf.ev c
 rw [ht] at hv
 simp only [rel] at hv
 exact wp_cond_split hv (fun e => h1 e s0 w0 s a w hf hs) (fun e => h2 e s0 w0 s a w hf hs)
theorem zrn {f : FuncId} {fn : Func} {c : Code} (hf : P.funcs[f]? = some fn) (hb : fn.body = some c) (hname : (fn.name == "runtime.NumGoroutine") = false)
  {ds : List D} {H : HM} {nx : Nat} {K : D -> HM -> Nat -> Prop} (hds : ds.length <= fn.ntmps) (h : Sem P fn.ntmps c (retQ P fn.results.toList K) (st0 ds H nx)) : AC P f ds H nx K := by
 refine ⟨⟨fn, hf, hname, by rw [hb]; rfl⟩, fun s w vs hH hnx hRH hr => ?_⟩
 have hlen := z06 hr
 refine calls_of_wp hf hb ?_
 have hfr : Fr P fn.ntmps (st0 ds H nx) s { tmps := vs.toArray ++ Array.replicate (fn.ntmps - vs.toArray.size) undef, defers := [] } w := by
  refine ⟨hH, hnx, by simp; omega, rfl, fun i => ?_, hRH⟩
  simp only [st0]
  cases V : ds[i]? with
  | none => simp [rel]
  | some d =>
   obtain ⟨v, hv, hrel⟩ := z29 hr i d V
   have hi : i < vs.length := by
    rcases Nat.lt_or_ge i vs.length with h | h
    ·exact h
    ·rw [List.getElem?_eq_none h] at hv; cases hv
   simp only [Array.getD_eq_getD_getElem?, Option.getD_some]
   rw [Array.getElem?_append_left (by simpa using hi)]
   simp only [List.getElem?_toArray, hv, Option.getD_some]
   exact hrel
 refine wp_mono (h s w s _ w hfr (Step.refl s w)) ?_
 rintro e a' w' ⟨st', s', hq, hf', hs'⟩
 cases e with
 | normal =>
  obtain ⟨r, hr, J⟩ := hq
  obtain ⟨v, h1, h2⟩ := z5m hf' hr
  exact ⟨hf'.defers, v, h1, v, r, s', rfl, by rw [hf'.H, hf'.nx]; exact J, hs', hf'.heap, h2⟩
 | ret =>
  obtain ⟨r, hr, J⟩ := hq
  obtain ⟨v, h1, h2⟩ := z5m hf' hr
  exact ⟨hf'.defers, v, h1, v, r, s', rfl, by rw [hf'.H, hf'.nx]; exact J, hs', hf'.heap, h2⟩
 | exit id => exact hq.elim
 | goto l => exact hq.elim
 | panic ch => exact hq.elim
 | outgrown => exact hq.elim
section
variable {st : St} {dst : Option Nat} {n : FuncId} {cap args : List D} {g : List Oper -> (St -> Prop) -> St -> Prop} {rest : List Oper} {K : St -> Prop}
end
end Go.Proofs.YtppebcifiejplaaGreatDoor.Abs
namespace Go.Proofs.YtppebcifiejplaaGreatDoor.Abs
open Go.RowKit
variable {P : Program}
end Go.Proofs.YtppebcifiejplaaGreatDoor.Abs
namespace Go.Proofs.YtppebcifiejplaaGreatDoor.Abs
open Go.RowKit
variable {P : Program}
theorem Sem.block {N id : Nat} {c : Code} {Q : Exit -> St -> Prop} {st : St} (h : Sem P N c (zpw id Q) st) : Sem P N (.block id c) Q st := by
 intro s0 w0 s a w hf hs
 refine wp_block (wp_mono (h s0 w0 s a w hf hs) ?_)
 rintro e a' w' ⟨st', s', hq, hf', hs'⟩
 cases e with
 | exit id' =>
  simp only [zpw] at hq
  simp only [Exit.inBlock]
  split
  ·rename_i he; rw [if_pos he] at hq; exact ⟨st', s', hq, hf', hs'⟩
  ·rename_i he; rw [if_neg he] at hq; exact ⟨st', s', hq, hf', hs'⟩
 | normal => exact ⟨st', s', hq, hf', hs'⟩
 | goto l => exact ⟨st', s', hq, hf', hs'⟩
 | ret => exact ⟨st', s', hq, hf', hs'⟩
 | panic ch => exact ⟨st', s', hq, hf', hs'⟩
 | outgrown => exact ⟨st', s', hq, hf', hs'⟩
theorem Sem.mono {N : Nat} {c : Code} {Q Q' : Exit -> St -> Prop} {st : St} (h : Sem P N c Q st) (hq : ∀ e st, Q e st -> Q' e st) : Sem P N c Q' st := fun s0 w0 s a w hf hs =>
 wp_mono (h s0 w0 s a w hf hs) fun _ _ _ ⟨st', s', h1, h2, h3⟩ => ⟨st', s', hq _ _ h1, h2, h3⟩
section
variable {N : Nat} {own : List Nat} {i0 b i1 b1 i4 : Nat} {ops0 ops1 ops4 : Array Oper} {pre : List Oper} {t7 t8 t9 t10 : Nat} {T : TypeId} {x : Operand} {rest4 : List Oper} {body : Code} {Q : Exit -> St -> Prop} {st : St}
end
end Go.Proofs.YtppebcifiejplaaGreatDoor.Abs
namespace Go.Proofs.YtppebcifiejplaaGreatDoor.Abs
open Go.RowKit
variable {P : Program}
end Go.Proofs.YtppebcifiejplaaGreatDoor.Abs
namespace Go.Proofs.YtppebcifiejplaaGreatDoor
section
open Abs Facts Tr
attribute [local irreducible] awp
set_option maxRecDepth 100000
end
section
open Abs Facts Tr
attribute [local irreducible] awp
set_option maxRecDepth 100000
namespace Tr
section
variable {w : List Wd} {gone : Nat} {new : List ByteArray} {a j : Int}
end
end Tr
namespace Tr
end Tr
section
variable {w : List Wd} {old new : List ByteArray} {nth a j : Int}
end
end
section
open Abs Facts Tr
attribute [local irreducible] awp
set_option maxRecDepth 100000
namespace Tr
theorem txt_len (w : List Wd) : (txt w).length = w.length := by unfold txt; rw [List.length_map]
end Tr
theorem zg9 (a b : List Wd) (ha : a.length <= maxLen) (hb : b.length <= maxLen) : PC Tryz.prog 52 [z0s a, z0s b] (.bool (decide (a = b))) := by
 unfold maxLen at ha hb
 refine z1y 1 (by simp only [pureD.pureL, z13, Bool.and_self]) rfl (z1v [] Tryz.func52 rfl (by decide +kernel) z0i (by decide +kernel) (by simp [Tryz.ntmps52]) ?_)
 show awp _ _ (Code.seq _ _) _ _
 repeat' (first | refine zqj ?_ | ((refine zqh fun K J => ?_); (simp (disch := omega) only [go_sem, Nat.reduceBEq, ↓reduceIte, z0s])) | ((refine zqd _ rfl (fun hc => ?_) (fun hc => ?_)) <;> (((try simp only [z01] at hc); (try (exfalso; omega))))) | refine zqa ?_ | refine zqb ?_ | refine zqg ?_ | refine zqu (by (simp (disch := omega) only [go_sem]); rfl) rfl ?_ | (refine J _ ?_; clear J K))
 ·exact z00 (decide_eq_false (fun h => by subst h; contradiction)).symm
 ·have hl : a.length = b.length := by omega
  (refine z3h (fun U st => ∃ (k : _), U = a.length - k /\ st.t 0 = z0s a /\ st.t 1 = z0s b /\ st.t 5 = .int .i64 k /\ (k <= a.length) /\ (a.take k = b.take k)) ?_ ?_); rotate_left; (rintro U st ⟨k, rfl, q0, q1, q5, qp0, qp1⟩); rotate_left
  ·(refine ⟨_, 0, rfl, ?_⟩); (simp (disch := omega) only [go_sem, Nat.reduceBEq, and_self, Int.natCast_zero, z0s])
   try simp
  repeat' (first | refine zqj ?_ | ((first | refine zqh fun K J => ?_ | refine zqe (by decide +kernel) fun K J => ?_ | refine zqr fun K J => ?_); (simp (disch := omega) only [go_sem, Nat.reduceBEq, ↓reduceIte, reduceCtorEq, Nat.reduceAdd, q0, q1, q5, z0s])) | ((first | refine zqd _ rfl (fun hc => ?_) (fun hc => ?_) | refine zqm _ rfl (fun hc => ?_) (fun hc => ?_)) <;> (((try simp only [z01] at hc); (try (exfalso; omega))))) | refine zqa ?_ | refine zqb ?_ | refine zqc ?_ | refine zqk ?_ | refine zqn ?_ | refine zqv ?_ | refine zqx ?_ | refine zqy ?_ | refine zqz ?_ | refine z23 ?_ | refine zqp ?_ | refine zqo ?_ | refine zqu (by (simp (disch := omega) only [go_sem]); rfl) rfl ?_ | (refine J _ ?_; clear J K))
  ·exact z00 (decide_eq_false (zik (k := k) (by omega) hl (by assumption))).symm
  ·(refine Exists.intro _ (And.intro ?_ ⟨k + 1, rfl, ?_⟩)); rotate_left; (simp (disch := omega) only [go_sem, Nat.reduceBEq, q0, q1, q5, true_and, Int.natCast_add, Int.natCast_one, z0s]); rotate_left
   ·omega
   ·exact ⟨by omega, z5h (by omega) hl qp1 (by assumption)⟩
  ·exact z00 (decide_eq_true (z7d (by omega) hl qp1)).symm
theorem zjk : ∀ a : T, szB a = true -> ∀ b : T, szB b = true -> PC Tryz.prog 10 [z25 a, z25 b] (.bool (decide (a = b))) := by
 refine z55 fun a ih hs b hb => ?_
 obtain ⟨a0, a1, _, a2, _, a3, a4⟩ := (z2e a).1 hs
 obtain ⟨b0, b1, _, b2, _, b3, b4⟩ := (z2e b).1 hb
 have r1 := zg9 a.head b.head (by unfold maxLen; omega) (by unfold maxLen; omega)
 have r2 := zg9 a.words b.words (by unfold maxLen; omega) (by unfold maxLen; omega)
 refine z1y 1 (by simp only [pureD.pureL, z05, Bool.and_self]) rfl (z1v [] Tryz.func10 rfl (by decide +kernel) z0i (by decide +kernel) (by simp [Tryz.ntmps10]) ?_)
 show awp _ _ (Code.seq _ _) _ _
 repeat' (first | refine zqj ?_ | ((first | refine zqh fun K J => ?_ | refine zqs (r1) ?_ | refine zqs (r2) ?_); (simp (disch := omega) only [go_sem, Nat.reduceBEq, ↓reduceIte, reduceCtorEq, Nat.reduceAdd, Nat.reduceLeDiff])) | ((refine zqd _ rfl (fun hc => ?_) (fun hc => ?_)) <;> (first | (cases hc; done) | ((try simp only [z01] at hc); (try (exfalso; omega))))) | refine zqa ?_ | refine zqb ?_ | refine zqg ?_ | refine zqu (by (simp (disch := omega) only [go_sem]); rfl) rfl ?_ | (refine J _ ?_; clear J K) | (refine zqf (fun hb => ?_) (fun hb => ?_) <;> (have hb2 := hb; try simp only [z01] at hb2) <;> ((first | have F := eq_false hb2 | have F := eq_true hb2); (simp (disch := omega) only [go_sem, Nat.reduceBEq, ↓reduceIte, reduceCtorEq, Nat.reduceAdd, F, z10]); clear hb F; (try (exfalso; omega)))))
 all_goals first | exact z00 (decide_eq_false (fun h => by subst h; contradiction)).symm | skip
 have hl : a.kids.length = b.kids.length := by omega
 (refine z3h (fun U st => ∃ (k : _), U = a.kids.length - k /\ st.t 2 = .ptr 0 0 /\ st.t 3 = .ptr 1 0 /\ st.t 5 = .int .i64 k /\ st.H 0 = some (.box 27 (z07 a)) /\ st.H 1 = some (.box 27 (z07 b)) /\ (k <= a.kids.length) /\ (2 <= st.nx) /\ (a.kids.take k = b.kids.take k)) ?_ ?_); rotate_left; (rintro U st ⟨k, rfl, q2, q3, q5, qH0, qH1, qp0, qp1, qp2⟩); rotate_left
 ·(refine ⟨_, 0, rfl, ?_⟩); (simp (disch := omega) only [go_sem, Nat.reduceBEq, Nat.reduceLeDiff, and_self, Int.natCast_zero])
  try simp
 by_cases O : k < a.kids.length
 ·have hin := ih a.kids[k] (List.getElem_mem O) (a4 _ (List.getElem_mem O)) b.kids[k] (b4 _ (List.getElem_mem (by omega)))
  repeat' (first | refine zqj ?_ | ((first | refine zqh fun K J => ?_ | refine zqe (by decide +kernel) fun K J => ?_ | refine zqr fun K J => ?_ | refine zqt (hin) ?_); (simp (disch := omega) only [go_sem, Nat.reduceBEq, ↓reduceIte, reduceCtorEq, Nat.reduceAdd, q2, q3, q5, qH0, qH1, z10])) | ((first | refine zqd _ rfl (fun hc => ?_) (fun hc => ?_) | refine zqm _ rfl (fun hc => ?_) (fun hc => ?_)) <;> (((try simp only [z01] at hc); (try (exfalso; omega))))) | refine zqa ?_ | refine zqb ?_ | refine zqk ?_ | refine zqn ?_ | refine zqv ?_ | refine zqx ?_ | refine zqy ?_ | refine z23 ?_ | refine zqo ?_ | refine zqu (by (simp (disch := omega) only [go_sem]); rfl) rfl ?_ | (refine J _ ?_; clear J K))
  ·exact z00 (decide_eq_false (fun h => zik O hl (by assumption) (congrArg T.kids h))).symm
  ·(refine Exists.intro _ (And.intro ?_ ⟨k + 1, rfl, ?_⟩)); rotate_left; (simp (disch := omega) only [go_sem, Nat.reduceBEq, q2, q3, q5, qH0, qH1, true_and, Int.natCast_add, Int.natCast_one]); rotate_left
   ·omega
   ·exact ⟨by omega, by omega, z5h O hl qp2 (by assumption)⟩
 ·repeat' (first | refine zqj ?_ | ((refine zqh fun K J => ?_); (simp (disch := omega) only [go_sem, Nat.reduceBEq, ↓reduceIte, reduceCtorEq, Nat.reduceAdd, q2, q5, qH0, z10])) | ((refine zqd _ rfl (fun hc => ?_) (fun hc => ?_)) <;> (((try simp only [z01] at hc); (try (exfalso; omega))))) | refine zqc ?_ | refine zqn ?_ | refine zqv ?_ | refine zqz ?_ | refine zqp ?_ | refine zqu (by (simp (disch := omega) only [go_sem]); rfl) rfl ?_ | (refine J _ ?_; clear J K))
  refine z00 (decide_eq_true ?_).symm
  have hkk := z7d (by omega) hl qp2
  rw [<- T.eta a, <- T.eta b, ‹a.id = b.id›, ‹a.kind = b.kind›, ‹a.label = b.label›, ‹a.head = b.head›, ‹a.words = b.words›, hkk]
namespace Tr
end Tr
namespace Tr
end Tr
def zIt : List D := [.int .i64 0, .nil, .nil, .int .i64 0, .int .i64 0, .int .i64 0, .int .i64 0, .int .i64 0, .int .i64 0, .str ⟨#[]⟩, .nil, .nil, .nil, .nil, .nil, .str ⟨#[]⟩, .str ⟨#[]⟩, .int .i64 0, .int .i64 0, .str ⟨#[]⟩, .int .i64 0, .int .i64 0, .int .i64 0, .str ⟨#[]⟩, .nil]
theorem z4t {ds : List D} {y : It} (h : LeL ds (z0f y)) : Le (.agg ds) (z8u y) := Le.agg h
theorem zr8 (d : D) (cs : List D) (k : Nat) : z11 cs k [d] = cs.set k d := rfl
theorem zyw (x : It) : zli x = .mk x.kind (if x.kind <= 6 then x.at_ else []) (if x.kind = 6 then x.to else []) (if x.kind = 0 \/ x.kind = 6 then x.wh else 0) (if x.kind = 2 \/ x.kind = 3 then x.nth else 0) (if x.kind = 0 then x.unit else T.zero)
  (if x.kind = 2 \/ x.kind = 3 then x.old else []) (if x.kind = 2 \/ x.kind = 3 \/ x.kind = 4 then x.new else []) (if x.kind = 5 then x.label else z1c) (if x.kind <= 6 then x.for_ else z1c) (if x.kind <= 6 then x.sk else 0) (if x.kind <= 6 then x.sd else 0) (if x.kind <= 6 then x.se else z1c)
  (if x.kind = 7 \/ x.kind = 8 \/ x.kind = 9 \/ x.kind = 11 then x.act else 0) (if x.kind = 7 \/ x.kind = 8 \/ x.kind = 9 \/ x.kind = 11 then x.item else 0) (if x.kind <= 6 \/ x.kind = 11 then 0 else x.day) (if x.kind = 10 then x.event else z1c) (if x.kind = 11 then x.by_ else []) := by
 unfold zli
 simp only [decide_eq_true_eq]
set_option maxHeartbeats 16000000 in
theorem pc_told (x : It) (O : 0 <= x.kind /\ x.kind <= 11) : PC Tryz.prog 76 [z8u x] (z8u (zli x)) := by
 refine z1y 3 (by simp only [pureD.pureL, z2v, Bool.and_self]) (z2v _) (z1v [8000000, 600011, 900000, 600013, 900000, 600015, 900000, 600016, 900002, 600017, 900002, 600018, 900002, 600027, 900000, 600029, 900000, 600030, 900002, 600031, 900002, 600036, 900000, 600038, 900000, 600040, 900000, 600041, 900002, 600042, 900002, 600043, 900002, 600057, 900000, 600059, 900000, 600060, 900002, 600061, 900002, 600067, 900000, 600069, 900000, 600070, 900002, 600071, 900002, 600080, 900000, 600082, 900000, 600084, 900000, 600085, 900002, 600086, 900002, 600087, 900002, 600088, 900002] Tryz.func76 rfl (by decide +kernel) z0i (by decide +kernel) (by simp [Tryz.ntmps76]) ?_)
 show awp _ _ (Code.seq _ _) _ _
 rw [show Tryz.f76.results.toList = [.cell 2 43] from rfl]
 rw [zyw]
 have hzl : zIt.length = 25 := rfl
 have hszz : True := trivial
 rcases (show x.kind = 0 \/ x.kind = 1 \/ x.kind = 2 \/ x.kind = 3 \/ x.kind = 4 \/ x.kind = 5 \/ x.kind = 6 \/ x.kind = 7 \/ x.kind = 8 \/ x.kind = 9 \/ x.kind = 10 \/ x.kind = 11 by omega) with h | h | h | h | h | h | h | h | h | h | h | h
 ·skip
  repeat' (first | refine zqj ?_ | ((first | refine z03 (N := 5) rfl fun K J => ?_ | refine z12 (N := 5) rfl (by decide +kernel) fun K J => ?_); (simp (disch := omega) only [go_sem, Nat.reduceBEq, Nat.reduceEqDiff, ↓reduceIte, reduceCtorEq, Nat.reduceAdd, Nat.reduceLeDiff, Int.reduceLE, h, List.set_cons_succ, List.set_cons_zero])) | ((refine zqd _ rfl (fun hc => ?_) (fun hc => ?_)) <;> (first | (cases hc; done) | ((try simp only [] at hc); (try (exfalso; omega))))) | (refine J _ ?_; clear J K))
  (refine z1o (fun st => st.t 1 = .ptr 0 0 /\ st.t 2 = .ptr 1 0 /\ st.t 3 = .ptr 2 0 /\ st.H 0 = some (.box 43 (z0f x)) /\ st.H 1 = some (.box 43 zIt) /\ st.H 2 = some (.box 43 [.int .i64 0, z0a x.at_, .nil, .int .i64 0, .int .i64 0, .int .i64 0, .int .i64 0, .int .i64 0, .int .i64 0, .str ⟨#[]⟩, .nil, .nil, .nil, .nil, .nil, .str ⟨#[]⟩, .str x.for_, .int .i64 x.sk, .int .i64 x.sd, .str x.se, .int .i64 0, .int .i64 0, .int .i64 0, .str ⟨#[]⟩, .nil]) /\ st.nx = 3) ?_ ?_); rotate_left; (rintro st ⟨p1, p2, p3, pH0, pH1, pH2, pnx⟩); rotate_left
  ·(simp (disch := omega) only [go_sem, Nat.reduceBEq, true_and, and_true])
   first | exact ⟨rfl, rfl⟩ | exact rfl
  repeat' (first | ((first | refine z03 (N := 25) rfl fun K J => ?_ | refine zqq (by decide +kernel) fun K J => ?_); (simp (disch := omega) only [go_sem, Nat.reduceBEq, Nat.reduceEqDiff, ↓reduceIte, reduceCtorEq, Nat.reduceAdd, Nat.reduceLeDiff, Nat.reduceLT, p1, p3, pH0, pH2, pnx, h, z0a, List.set_cons_succ, List.set_cons_zero])) | ((refine zqm _ rfl (fun hc => ?_) (fun hc => ?_)) <;> (first | (cases hc; done) | ((try simp only [] at hc); (try (exfalso; omega))))) | refine zqa ?_ | refine zqv ?_ | refine zqy ?_ | (refine J _ ?_; clear J K))
  obtain ⟨L, hL⟩ : ∃ L : List D, L = [.int .i64 0, z0a x.at_, .nil, .int .i64 x.wh, .int .i64 0, .int .i64 x.unit.id.act, .int .i64 x.unit.id.item, .int .i64 x.unit.id.n, .int .i64 x.unit.kind, .str x.unit.label, z0s x.unit.head, z0s x.unit.words, z10 x.unit.kids, .nil, .nil, .str ⟨#[]⟩, .str x.for_, .int .i64 x.sk, .int .i64 x.sd, .str x.se, .int .i64 0, .int .i64 0, .int .i64 0, .str ⟨#[]⟩, .nil] := ⟨_, rfl⟩
  have hl1 : L.length = 25 := by rw [hL]; rfl
  have hl2 : List.take 25 L = L := List.take_of_length_le (by omega)
  have hl3 : z11 zIt 0 L = L := z24 _ _ (by rw [hl1]; rfl)
  (refine z1o (fun st => st.t 2 = .ptr 1 0 /\ st.t 3 = .ptr 2 0 /\ st.H 1 = some (.box 43 zIt) /\ st.H 2 = some (.box 43 L) /\ st.nx = 3) ?_ ?_); rotate_left; (rintro st ⟨r2, r3, rH1, rH2, rnx⟩); rotate_left
  ·(simp (disch := omega) only [go_sem, Nat.reduceBEq, true_and, and_true, p2, p3, pH1, pH2, hL, z0a])
   rw [z1p]; rfl
  repeat' (first | ((refine zqh fun K J => ?_); (simp (disch := omega) only [go_sem, Nat.reduceBEq, ↓reduceIte, Nat.reduceAdd, Nat.reduceLeDiff, r2, r3, rH1, rH2, rnx, hl1, hl2, hl3, hzl])) | refine zqn ?_ | refine zqu (by (simp (disch := omega) only [go_sem, Nat.reduceBEq, ↓reduceIte, Nat.reduceLeDiff, r2, rH1, hl1, hl2]); rfl) rfl ?_ | (refine J _ ?_; clear J K))
  refine z09 ?_ (z4t ?_)
  ·rw [hL]
   simp only [pureD, pureD.pureL, z1e, z13, z36, Bool.and_self]
  ·clear hl1 hl2 hl3 r2 r3 rH1 rH2 rnx p1 p2 p3 pH0 pH1 pH2 pnx
   cases x
   simp only [It.kind, It.at_, It.to, It.wh, It.nth, It.unit, It.old, It.new, It.label, It.for_, It.sk, It.sd, It.se, It.act, It.item, It.day, It.event, It.by_] at h hL ⊢
   subst h
   rw [z0b, hL]
   repeat' (first | exact trivial | exact Le.refl _ | exact Le.nil _ | refine And.intro ?_ ?_)
 ·skip
  repeat' (first | refine zqj ?_ | ((first | refine z03 (N := 5) rfl fun K J => ?_ | refine z12 (N := 5) rfl (by decide +kernel) fun K J => ?_); (simp (disch := omega) only [go_sem, Nat.reduceBEq, Nat.reduceEqDiff, ↓reduceIte, reduceCtorEq, Nat.reduceAdd, Nat.reduceLeDiff, Int.reduceLE, h, List.set_cons_succ, List.set_cons_zero])) | ((refine zqd _ rfl (fun hc => ?_) (fun hc => ?_)) <;> (first | (cases hc; done) | ((try simp only [] at hc); (try (exfalso; omega))))) | (refine J _ ?_; clear J K))
  (refine z1o (fun st => st.t 1 = .ptr 0 0 /\ st.t 2 = .ptr 1 0 /\ st.t 3 = .ptr 2 0 /\ st.H 0 = some (.box 43 (z0f x)) /\ st.H 1 = some (.box 43 zIt) /\ st.H 2 = some (.box 43 [.int .i64 1, z0a x.at_, .nil, .int .i64 0, .int .i64 0, .int .i64 0, .int .i64 0, .int .i64 0, .int .i64 0, .str ⟨#[]⟩, .nil, .nil, .nil, .nil, .nil, .str ⟨#[]⟩, .str x.for_, .int .i64 x.sk, .int .i64 x.sd, .str x.se, .int .i64 0, .int .i64 0, .int .i64 0, .str ⟨#[]⟩, .nil]) /\ st.nx = 3) ?_ ?_); rotate_left; (rintro st ⟨p1, p2, p3, pH0, pH1, pH2, pnx⟩); rotate_left
  ·(simp (disch := omega) only [go_sem, Nat.reduceBEq, true_and, and_true])
   first | exact ⟨rfl, rfl⟩ | exact rfl
  repeat' (first | refine zqj ?_ | ((refine z03 (N := 25) rfl fun K J => ?_); (simp (disch := omega) only [go_sem, Nat.reduceBEq, ↓reduceIte, reduceCtorEq, Nat.reduceAdd, Int.reduceEq, p1, pH0, pnx, h])) | ((first | refine zqd _ rfl (fun hc => ?_) (fun hc => ?_) | refine zqm _ rfl (fun hc => ?_) (fun hc => ?_)) <;> (first | (cases hc; done) | ((try simp only [] at hc); (try (exfalso; omega))))) | refine zqa ?_ | refine zqk ?_ | refine zqv ?_ | refine zqy ?_ | (refine J _ ?_; clear J K))
  obtain ⟨L, hL⟩ : ∃ L : List D, L = [.int .i64 1, z0a x.at_, .nil, .int .i64 0, .int .i64 0, .int .i64 0, .int .i64 0, .int .i64 0, .int .i64 0, .str ⟨#[]⟩, .nil, .nil, .nil, .nil, .nil, .str ⟨#[]⟩, .str x.for_, .int .i64 x.sk, .int .i64 x.sd, .str x.se, .int .i64 0, .int .i64 0, .int .i64 0, .str ⟨#[]⟩, .nil] := ⟨_, rfl⟩
  have hl1 : L.length = 25 := by rw [hL]; rfl
  have hl2 : List.take 25 L = L := List.take_of_length_le (by omega)
  have hl3 : z11 zIt 0 L = L := z24 _ _ (by rw [hl1]; rfl)
  (refine z1o (fun st => st.t 2 = .ptr 1 0 /\ st.t 3 = .ptr 2 0 /\ st.H 1 = some (.box 43 zIt) /\ st.H 2 = some (.box 43 L) /\ st.nx = 3) ?_ ?_); rotate_left; (rintro st ⟨r2, r3, rH1, rH2, rnx⟩); rotate_left
  ·(simp (disch := omega) only [go_sem, Nat.reduceBEq, and_self, p2, p3, pH1, pH2, hL, z0a])
  repeat' (first | ((refine zqh fun K J => ?_); (simp (disch := omega) only [go_sem, Nat.reduceBEq, ↓reduceIte, Nat.reduceAdd, Nat.reduceLeDiff, r2, r3, rH1, rH2, rnx, hl1, hl2, hl3, hzl])) | refine zqn ?_ | refine zqu (by (simp (disch := omega) only [go_sem, Nat.reduceBEq, ↓reduceIte, Nat.reduceLeDiff, r2, rH1, hl1, hl2]); rfl) rfl ?_ | (refine J _ ?_; clear J K))
  refine z09 ?_ (z4t ?_)
  ·rw [hL]
   simp only [pureD, pureD.pureL, z1e, Bool.and_self]
  ·clear hl1 hl2 hl3 r2 r3 rH1 rH2 rnx p1 p2 p3 pH0 pH1 pH2 pnx
   cases x
   simp only [It.kind, It.at_, It.to, It.wh, It.nth, It.unit, It.old, It.new, It.label, It.for_, It.sk, It.sd, It.se, It.act, It.item, It.day, It.event, It.by_] at h hL ⊢
   subst h
   rw [z0b, hL]
   repeat' (first | exact trivial | exact Le.refl _ | exact Le.nil _ | refine And.intro ?_ ?_)
 ·skip
  repeat' (first | refine zqj ?_ | ((first | refine z03 (N := 5) rfl fun K J => ?_ | refine z12 (N := 5) rfl (by decide +kernel) fun K J => ?_); (simp (disch := omega) only [go_sem, Nat.reduceBEq, Nat.reduceEqDiff, ↓reduceIte, reduceCtorEq, Nat.reduceAdd, Nat.reduceLeDiff, Int.reduceLE, h, List.set_cons_succ, List.set_cons_zero])) | ((refine zqd _ rfl (fun hc => ?_) (fun hc => ?_)) <;> (first | (cases hc; done) | ((try simp only [] at hc); (try (exfalso; omega))))) | (refine J _ ?_; clear J K))
  (refine z1o (fun st => st.t 1 = .ptr 0 0 /\ st.t 2 = .ptr 1 0 /\ st.t 3 = .ptr 2 0 /\ st.H 0 = some (.box 43 (z0f x)) /\ st.H 1 = some (.box 43 zIt) /\ st.H 2 = some (.box 43 [.int .i64 2, z0a x.at_, .nil, .int .i64 0, .int .i64 0, .int .i64 0, .int .i64 0, .int .i64 0, .int .i64 0, .str ⟨#[]⟩, .nil, .nil, .nil, .nil, .nil, .str ⟨#[]⟩, .str x.for_, .int .i64 x.sk, .int .i64 x.sd, .str x.se, .int .i64 0, .int .i64 0, .int .i64 0, .str ⟨#[]⟩, .nil]) /\ st.nx = 3) ?_ ?_); rotate_left; (rintro st ⟨p1, p2, p3, pH0, pH1, pH2, pnx⟩); rotate_left
  ·(simp (disch := omega) only [go_sem, Nat.reduceBEq, true_and, and_true])
   first | exact ⟨rfl, rfl⟩ | exact rfl
  repeat' (first | refine zqj ?_ | ((first | refine z03 (N := 25) rfl fun K J => ?_ | refine zqq (by decide +kernel) fun K J => ?_); (simp (disch := omega) only [go_sem, Nat.reduceBEq, Nat.reduceEqDiff, ↓reduceIte, reduceCtorEq, Nat.reduceAdd, Nat.reduceLeDiff, Nat.reduceLT, Int.reduceEq, p1, p3, pH0, pH2, pnx, h, z0a, z3b, List.set_cons_succ, List.set_cons_zero])) | ((first | refine zqd _ rfl (fun hc => ?_) (fun hc => ?_) | refine zqm _ rfl (fun hc => ?_) (fun hc => ?_)) <;> (first | (cases hc; done) | ((try simp only [] at hc); (try (exfalso; omega))))) | refine zqa ?_ | refine zqb ?_ | refine zqv ?_ | refine zqy ?_ | (refine J _ ?_; clear J K))
  obtain ⟨L, hL⟩ : ∃ L : List D, L = [.int .i64 2, z0a x.at_, .nil, .int .i64 0, .int .i64 x.nth, .int .i64 0, .int .i64 0, .int .i64 0, .int .i64 0, .str ⟨#[]⟩, .nil, .nil, .nil, z3b x.old, z3b x.new, .str ⟨#[]⟩, .str x.for_, .int .i64 x.sk, .int .i64 x.sd, .str x.se, .int .i64 0, .int .i64 0, .int .i64 0, .str ⟨#[]⟩, .nil] := ⟨_, rfl⟩
  have hl1 : L.length = 25 := by rw [hL]; rfl
  have hl2 : List.take 25 L = L := List.take_of_length_le (by omega)
  have hl3 : z11 zIt 0 L = L := z24 _ _ (by rw [hl1]; rfl)
  (refine z1o (fun st => st.t 2 = .ptr 1 0 /\ st.t 3 = .ptr 2 0 /\ st.H 1 = some (.box 43 zIt) /\ st.H 2 = some (.box 43 L) /\ st.nx = 3) ?_ ?_); rotate_left; (rintro st ⟨r2, r3, rH1, rH2, rnx⟩); rotate_left
  ·(simp (disch := omega) only [go_sem, Nat.reduceBEq, and_self, p2, p3, pH1, pH2, hL, z0a, z3b])
  repeat' (first | ((refine zqh fun K J => ?_); (simp (disch := omega) only [go_sem, Nat.reduceBEq, ↓reduceIte, Nat.reduceAdd, Nat.reduceLeDiff, r2, r3, rH1, rH2, rnx, hl1, hl2, hl3, hzl])) | refine zqn ?_ | refine zqu (by (simp (disch := omega) only [go_sem, Nat.reduceBEq, ↓reduceIte, Nat.reduceLeDiff, r2, rH1, hl1, hl2]); rfl) rfl ?_ | (refine J _ ?_; clear J K))
  refine z09 ?_ (z4t ?_)
  ·rw [hL]
   simp only [pureD, pureD.pureL, z1e, z31, Bool.and_self]
  ·clear hl1 hl2 hl3 r2 r3 rH1 rH2 rnx p1 p2 p3 pH0 pH1 pH2 pnx
   cases x
   simp only [It.kind, It.at_, It.to, It.wh, It.nth, It.unit, It.old, It.new, It.label, It.for_, It.sk, It.sd, It.se, It.act, It.item, It.day, It.event, It.by_] at h hL ⊢
   subst h
   rw [z0b, hL]
   repeat' (first | exact trivial | exact Le.refl _ | exact Le.nil _ | refine And.intro ?_ ?_)
 ·skip
  repeat' (first | refine zqj ?_ | ((first | refine z03 (N := 5) rfl fun K J => ?_ | refine z12 (N := 5) rfl (by decide +kernel) fun K J => ?_); (simp (disch := omega) only [go_sem, Nat.reduceBEq, Nat.reduceEqDiff, ↓reduceIte, reduceCtorEq, Nat.reduceAdd, Nat.reduceLeDiff, Int.reduceLE, h, List.set_cons_succ, List.set_cons_zero])) | ((refine zqd _ rfl (fun hc => ?_) (fun hc => ?_)) <;> (first | (cases hc; done) | ((try simp only [] at hc); (try (exfalso; omega))))) | (refine J _ ?_; clear J K))
  (refine z1o (fun st => st.t 1 = .ptr 0 0 /\ st.t 2 = .ptr 1 0 /\ st.t 3 = .ptr 2 0 /\ st.H 0 = some (.box 43 (z0f x)) /\ st.H 1 = some (.box 43 zIt) /\ st.H 2 = some (.box 43 [.int .i64 3, z0a x.at_, .nil, .int .i64 0, .int .i64 0, .int .i64 0, .int .i64 0, .int .i64 0, .int .i64 0, .str ⟨#[]⟩, .nil, .nil, .nil, .nil, .nil, .str ⟨#[]⟩, .str x.for_, .int .i64 x.sk, .int .i64 x.sd, .str x.se, .int .i64 0, .int .i64 0, .int .i64 0, .str ⟨#[]⟩, .nil]) /\ st.nx = 3) ?_ ?_); rotate_left; (rintro st ⟨p1, p2, p3, pH0, pH1, pH2, pnx⟩); rotate_left
  ·(simp (disch := omega) only [go_sem, Nat.reduceBEq, true_and, and_true])
   first | exact ⟨rfl, rfl⟩ | exact rfl
  repeat' (first | refine zqj ?_ | ((first | refine z03 (N := 25) rfl fun K J => ?_ | refine zqq (by decide +kernel) fun K J => ?_); (simp (disch := omega) only [go_sem, Nat.reduceBEq, Nat.reduceEqDiff, ↓reduceIte, reduceCtorEq, Nat.reduceAdd, Nat.reduceLeDiff, Nat.reduceLT, Int.reduceEq, p1, p3, pH0, pH2, pnx, h, z0a, z3b, List.set_cons_succ, List.set_cons_zero])) | ((first | refine zqd _ rfl (fun hc => ?_) (fun hc => ?_) | refine zqm _ rfl (fun hc => ?_) (fun hc => ?_)) <;> (first | (cases hc; done) | ((try simp only [] at hc); (try (exfalso; omega))))) | refine zqa ?_ | refine zqv ?_ | refine zqy ?_ | (refine J _ ?_; clear J K))
  obtain ⟨L, hL⟩ : ∃ L : List D, L = [.int .i64 3, z0a x.at_, .nil, .int .i64 0, .int .i64 x.nth, .int .i64 0, .int .i64 0, .int .i64 0, .int .i64 0, .str ⟨#[]⟩, .nil, .nil, .nil, z3b x.old, z3b x.new, .str ⟨#[]⟩, .str x.for_, .int .i64 x.sk, .int .i64 x.sd, .str x.se, .int .i64 0, .int .i64 0, .int .i64 0, .str ⟨#[]⟩, .nil] := ⟨_, rfl⟩
  have hl1 : L.length = 25 := by rw [hL]; rfl
  have hl2 : List.take 25 L = L := List.take_of_length_le (by omega)
  have hl3 : z11 zIt 0 L = L := z24 _ _ (by rw [hl1]; rfl)
  (refine z1o (fun st => st.t 2 = .ptr 1 0 /\ st.t 3 = .ptr 2 0 /\ st.H 1 = some (.box 43 zIt) /\ st.H 2 = some (.box 43 L) /\ st.nx = 3) ?_ ?_); rotate_left; (rintro st ⟨r2, r3, rH1, rH2, rnx⟩); rotate_left
  ·(simp (disch := omega) only [go_sem, Nat.reduceBEq, and_self, p2, p3, pH1, pH2, hL, z0a, z3b])
  repeat' (first | ((refine zqh fun K J => ?_); (simp (disch := omega) only [go_sem, Nat.reduceBEq, ↓reduceIte, Nat.reduceAdd, Nat.reduceLeDiff, r2, r3, rH1, rH2, rnx, hl1, hl2, hl3, hzl])) | refine zqn ?_ | refine zqu (by (simp (disch := omega) only [go_sem, Nat.reduceBEq, ↓reduceIte, Nat.reduceLeDiff, r2, rH1, hl1, hl2]); rfl) rfl ?_ | (refine J _ ?_; clear J K))
  refine z09 ?_ (z4t ?_)
  ·rw [hL]
   simp only [pureD, pureD.pureL, z1e, z31, Bool.and_self]
  ·clear hl1 hl2 hl3 r2 r3 rH1 rH2 rnx p1 p2 p3 pH0 pH1 pH2 pnx
   cases x
   simp only [It.kind, It.at_, It.to, It.wh, It.nth, It.unit, It.old, It.new, It.label, It.for_, It.sk, It.sd, It.se, It.act, It.item, It.day, It.event, It.by_] at h hL ⊢
   subst h
   rw [z0b, hL]
   repeat' (first | exact trivial | exact Le.refl _ | exact Le.nil _ | refine And.intro ?_ ?_)
 ·skip
  repeat' (first | refine zqj ?_ | ((first | refine z03 (N := 5) rfl fun K J => ?_ | refine z12 (N := 5) rfl (by decide +kernel) fun K J => ?_); (simp (disch := omega) only [go_sem, Nat.reduceBEq, Nat.reduceEqDiff, ↓reduceIte, reduceCtorEq, Nat.reduceAdd, Nat.reduceLeDiff, Int.reduceLE, h, List.set_cons_succ, List.set_cons_zero])) | ((refine zqd _ rfl (fun hc => ?_) (fun hc => ?_)) <;> (first | (cases hc; done) | ((try simp only [] at hc); (try (exfalso; omega))))) | (refine J _ ?_; clear J K))
  (refine z1o (fun st => st.t 1 = .ptr 0 0 /\ st.t 2 = .ptr 1 0 /\ st.t 3 = .ptr 2 0 /\ st.H 0 = some (.box 43 (z0f x)) /\ st.H 1 = some (.box 43 zIt) /\ st.H 2 = some (.box 43 [.int .i64 4, z0a x.at_, .nil, .int .i64 0, .int .i64 0, .int .i64 0, .int .i64 0, .int .i64 0, .int .i64 0, .str ⟨#[]⟩, .nil, .nil, .nil, .nil, .nil, .str ⟨#[]⟩, .str x.for_, .int .i64 x.sk, .int .i64 x.sd, .str x.se, .int .i64 0, .int .i64 0, .int .i64 0, .str ⟨#[]⟩, .nil]) /\ st.nx = 3) ?_ ?_); rotate_left; (rintro st ⟨p1, p2, p3, pH0, pH1, pH2, pnx⟩); rotate_left
  ·(simp (disch := omega) only [go_sem, Nat.reduceBEq, true_and, and_true])
   first | exact ⟨rfl, rfl⟩ | exact rfl
  repeat' (first | refine zqj ?_ | ((first | refine z03 (N := 25) rfl fun K J => ?_ | refine zqr fun K J => ?_); (simp (disch := omega) only [go_sem, Nat.reduceBEq, ↓reduceIte, reduceCtorEq, Nat.reduceAdd, Nat.reduceLeDiff, Nat.reduceLT, Int.reduceEq, p1, p3, pH0, pH2, pnx, h, z0a, z3b, List.set_cons_succ, List.set_cons_zero])) | ((first | refine zqd _ rfl (fun hc => ?_) (fun hc => ?_) | refine zqm _ rfl (fun hc => ?_) (fun hc => ?_)) <;> (first | (cases hc; done) | ((try simp only [] at hc); (try (exfalso; omega))))) | refine zqa ?_ | refine zqv ?_ | refine zqy ?_ | (refine J _ ?_; clear J K))
  obtain ⟨L, hL⟩ : ∃ L : List D, L = [.int .i64 4, z0a x.at_, .nil, .int .i64 0, .int .i64 0, .int .i64 0, .int .i64 0, .int .i64 0, .int .i64 0, .str ⟨#[]⟩, .nil, .nil, .nil, .nil, z3b x.new, .str ⟨#[]⟩, .str x.for_, .int .i64 x.sk, .int .i64 x.sd, .str x.se, .int .i64 0, .int .i64 0, .int .i64 0, .str ⟨#[]⟩, .nil] := ⟨_, rfl⟩
  have hl1 : L.length = 25 := by rw [hL]; rfl
  have hl2 : List.take 25 L = L := List.take_of_length_le (by omega)
  have hl3 : z11 zIt 0 L = L := z24 _ _ (by rw [hl1]; rfl)
  (refine z1o (fun st => st.t 2 = .ptr 1 0 /\ st.t 3 = .ptr 2 0 /\ st.H 1 = some (.box 43 zIt) /\ st.H 2 = some (.box 43 L) /\ st.nx = 3) ?_ ?_); rotate_left; (rintro st ⟨r2, r3, rH1, rH2, rnx⟩); rotate_left
  ·(simp (disch := omega) only [go_sem, Nat.reduceBEq, and_self, p2, p3, pH1, pH2, hL, z0a, z3b])
  repeat' (first | ((refine zqh fun K J => ?_); (simp (disch := omega) only [go_sem, Nat.reduceBEq, ↓reduceIte, Nat.reduceAdd, Nat.reduceLeDiff, r2, r3, rH1, rH2, rnx, hl1, hl2, hl3, hzl])) | refine zqn ?_ | refine zqu (by (simp (disch := omega) only [go_sem, Nat.reduceBEq, ↓reduceIte, Nat.reduceLeDiff, r2, rH1, hl1, hl2]); rfl) rfl ?_ | (refine J _ ?_; clear J K))
  refine z09 ?_ (z4t ?_)
  ·rw [hL]
   simp only [pureD, pureD.pureL, z1e, z31, Bool.and_self]
  ·clear hl1 hl2 hl3 r2 r3 rH1 rH2 rnx p1 p2 p3 pH0 pH1 pH2 pnx
   cases x
   simp only [It.kind, It.at_, It.to, It.wh, It.nth, It.unit, It.old, It.new, It.label, It.for_, It.sk, It.sd, It.se, It.act, It.item, It.day, It.event, It.by_] at h hL ⊢
   subst h
   rw [z0b, hL]
   repeat' (first | exact trivial | exact Le.refl _ | exact Le.nil _ | refine And.intro ?_ ?_)
 ·skip
  repeat' (first | refine zqj ?_ | ((first | refine z03 (N := 5) rfl fun K J => ?_ | refine z12 (N := 5) rfl (by decide +kernel) fun K J => ?_); (simp (disch := omega) only [go_sem, Nat.reduceBEq, Nat.reduceEqDiff, ↓reduceIte, reduceCtorEq, Nat.reduceAdd, Nat.reduceLeDiff, Int.reduceLE, h, List.set_cons_succ, List.set_cons_zero])) | ((refine zqd _ rfl (fun hc => ?_) (fun hc => ?_)) <;> (first | (cases hc; done) | ((try simp only [] at hc); (try (exfalso; omega))))) | (refine J _ ?_; clear J K))
  (refine z1o (fun st => st.t 1 = .ptr 0 0 /\ st.t 2 = .ptr 1 0 /\ st.t 3 = .ptr 2 0 /\ st.H 0 = some (.box 43 (z0f x)) /\ st.H 1 = some (.box 43 zIt) /\ st.H 2 = some (.box 43 [.int .i64 5, z0a x.at_, .nil, .int .i64 0, .int .i64 0, .int .i64 0, .int .i64 0, .int .i64 0, .int .i64 0, .str ⟨#[]⟩, .nil, .nil, .nil, .nil, .nil, .str ⟨#[]⟩, .str x.for_, .int .i64 x.sk, .int .i64 x.sd, .str x.se, .int .i64 0, .int .i64 0, .int .i64 0, .str ⟨#[]⟩, .nil]) /\ st.nx = 3) ?_ ?_); rotate_left; (rintro st ⟨p1, p2, p3, pH0, pH1, pH2, pnx⟩); rotate_left
  ·(simp (disch := omega) only [go_sem, Nat.reduceBEq, true_and, and_true])
   first | exact ⟨rfl, rfl⟩ | exact rfl
  repeat' (first | refine zqj ?_ | ((first | refine z03 (N := 25) rfl fun K J => ?_ | refine zqr fun K J => ?_); (simp (disch := omega) only [go_sem, Nat.reduceBEq, ↓reduceIte, reduceCtorEq, Nat.reduceAdd, Nat.reduceLeDiff, Nat.reduceLT, Int.reduceEq, p1, p3, pH0, pH2, pnx, h, z0a, List.set_cons_succ, List.set_cons_zero])) | ((first | refine zqd _ rfl (fun hc => ?_) (fun hc => ?_) | refine zqm _ rfl (fun hc => ?_) (fun hc => ?_)) <;> (first | (cases hc; done) | ((try simp only [] at hc); (try (exfalso; omega))))) | refine zqa ?_ | refine zqv ?_ | refine zqy ?_ | (refine J _ ?_; clear J K))
  obtain ⟨L, hL⟩ : ∃ L : List D, L = [.int .i64 5, z0a x.at_, .nil, .int .i64 0, .int .i64 0, .int .i64 0, .int .i64 0, .int .i64 0, .int .i64 0, .str ⟨#[]⟩, .nil, .nil, .nil, .nil, .nil, .str x.label, .str x.for_, .int .i64 x.sk, .int .i64 x.sd, .str x.se, .int .i64 0, .int .i64 0, .int .i64 0, .str ⟨#[]⟩, .nil] := ⟨_, rfl⟩
  have hl1 : L.length = 25 := by rw [hL]; rfl
  have hl2 : List.take 25 L = L := List.take_of_length_le (by omega)
  have hl3 : z11 zIt 0 L = L := z24 _ _ (by rw [hl1]; rfl)
  (refine z1o (fun st => st.t 2 = .ptr 1 0 /\ st.t 3 = .ptr 2 0 /\ st.H 1 = some (.box 43 zIt) /\ st.H 2 = some (.box 43 L) /\ st.nx = 3) ?_ ?_); rotate_left; (rintro st ⟨r2, r3, rH1, rH2, rnx⟩); rotate_left
  ·(simp (disch := omega) only [go_sem, Nat.reduceBEq, and_self, p2, p3, pH1, pH2, hL, z0a])
  repeat' (first | ((refine zqh fun K J => ?_); (simp (disch := omega) only [go_sem, Nat.reduceBEq, ↓reduceIte, Nat.reduceAdd, Nat.reduceLeDiff, r2, r3, rH1, rH2, rnx, hl1, hl2, hl3, hzl])) | refine zqn ?_ | refine zqu (by (simp (disch := omega) only [go_sem, Nat.reduceBEq, ↓reduceIte, Nat.reduceLeDiff, r2, rH1, hl1, hl2]); rfl) rfl ?_ | (refine J _ ?_; clear J K))
  refine z09 ?_ (z4t ?_)
  ·rw [hL]
   simp only [pureD, pureD.pureL, z1e, Bool.and_self]
  ·clear hl1 hl2 hl3 r2 r3 rH1 rH2 rnx p1 p2 p3 pH0 pH1 pH2 pnx
   cases x
   simp only [It.kind, It.at_, It.to, It.wh, It.nth, It.unit, It.old, It.new, It.label, It.for_, It.sk, It.sd, It.se, It.act, It.item, It.day, It.event, It.by_] at h hL ⊢
   subst h
   rw [z0b, hL]
   repeat' (first | exact trivial | exact Le.refl _ | exact Le.nil _ | refine And.intro ?_ ?_)
 ·skip
  repeat' (first | refine zqj ?_ | ((first | refine z03 (N := 5) rfl fun K J => ?_ | refine z12 (N := 5) rfl (by decide +kernel) fun K J => ?_); (simp (disch := omega) only [go_sem, Nat.reduceBEq, Nat.reduceEqDiff, ↓reduceIte, reduceCtorEq, Nat.reduceAdd, Nat.reduceLeDiff, Int.reduceLE, h, List.set_cons_succ, List.set_cons_zero])) | ((refine zqd _ rfl (fun hc => ?_) (fun hc => ?_)) <;> (first | (cases hc; done) | ((try simp only [] at hc); (try (exfalso; omega))))) | (refine J _ ?_; clear J K))
  (refine z1o (fun st => st.t 1 = .ptr 0 0 /\ st.t 2 = .ptr 1 0 /\ st.t 3 = .ptr 2 0 /\ st.H 0 = some (.box 43 (z0f x)) /\ st.H 1 = some (.box 43 zIt) /\ st.H 2 = some (.box 43 [.int .i64 6, z0a x.at_, .nil, .int .i64 0, .int .i64 0, .int .i64 0, .int .i64 0, .int .i64 0, .int .i64 0, .str ⟨#[]⟩, .nil, .nil, .nil, .nil, .nil, .str ⟨#[]⟩, .str x.for_, .int .i64 x.sk, .int .i64 x.sd, .str x.se, .int .i64 0, .int .i64 0, .int .i64 0, .str ⟨#[]⟩, .nil]) /\ st.nx = 3) ?_ ?_); rotate_left; (rintro st ⟨p1, p2, p3, pH0, pH1, pH2, pnx⟩); rotate_left
  ·(simp (disch := omega) only [go_sem, Nat.reduceBEq, true_and, and_true])
   first | exact ⟨rfl, rfl⟩ | exact rfl
  repeat' (first | refine zqj ?_ | ((first | refine z03 (N := 25) rfl fun K J => ?_ | refine zqq (by decide +kernel) fun K J => ?_); (simp (disch := omega) only [go_sem, Nat.reduceBEq, Nat.reduceEqDiff, ↓reduceIte, reduceCtorEq, Nat.reduceAdd, Nat.reduceLeDiff, Nat.reduceLT, Int.reduceEq, p1, p3, pH0, pH2, pnx, h, z0a, List.set_cons_succ, List.set_cons_zero])) | ((first | refine zqd _ rfl (fun hc => ?_) (fun hc => ?_) | refine zqm _ rfl (fun hc => ?_) (fun hc => ?_)) <;> (first | (cases hc; done) | ((try simp only [] at hc); (try (exfalso; omega))))) | refine zqa ?_ | refine zqv ?_ | refine zqy ?_ | (refine J _ ?_; clear J K))
  obtain ⟨L, hL⟩ : ∃ L : List D, L = [.int .i64 6, z0a x.at_, z0a x.to, .int .i64 x.wh, .int .i64 0, .int .i64 0, .int .i64 0, .int .i64 0, .int .i64 0, .str ⟨#[]⟩, .nil, .nil, .nil, .nil, .nil, .str ⟨#[]⟩, .str x.for_, .int .i64 x.sk, .int .i64 x.sd, .str x.se, .int .i64 0, .int .i64 0, .int .i64 0, .str ⟨#[]⟩, .nil] := ⟨_, rfl⟩
  have hl1 : L.length = 25 := by rw [hL]; rfl
  have hl2 : List.take 25 L = L := List.take_of_length_le (by omega)
  have hl3 : z11 zIt 0 L = L := z24 _ _ (by rw [hl1]; rfl)
  (refine z1o (fun st => st.t 2 = .ptr 1 0 /\ st.t 3 = .ptr 2 0 /\ st.H 1 = some (.box 43 zIt) /\ st.H 2 = some (.box 43 L) /\ st.nx = 3) ?_ ?_); rotate_left; (rintro st ⟨r2, r3, rH1, rH2, rnx⟩); rotate_left
  ·(simp (disch := omega) only [go_sem, Nat.reduceBEq, and_self, p2, p3, pH1, pH2, hL, z0a])
  repeat' (first | ((refine zqh fun K J => ?_); (simp (disch := omega) only [go_sem, Nat.reduceBEq, ↓reduceIte, Nat.reduceAdd, Nat.reduceLeDiff, r2, r3, rH1, rH2, rnx, hl1, hl2, hl3, hzl])) | refine zqn ?_ | refine zqu (by (simp (disch := omega) only [go_sem, Nat.reduceBEq, ↓reduceIte, Nat.reduceLeDiff, r2, rH1, hl1, hl2]); rfl) rfl ?_ | (refine J _ ?_; clear J K))
  refine z09 ?_ (z4t ?_)
  ·rw [hL]
   simp only [pureD, pureD.pureL, z1e, Bool.and_self]
  ·clear hl1 hl2 hl3 r2 r3 rH1 rH2 rnx p1 p2 p3 pH0 pH1 pH2 pnx
   cases x
   simp only [It.kind, It.at_, It.to, It.wh, It.nth, It.unit, It.old, It.new, It.label, It.for_, It.sk, It.sd, It.se, It.act, It.item, It.day, It.event, It.by_] at h hL ⊢
   subst h
   rw [z0b, hL]
   repeat' (first | exact trivial | exact Le.refl _ | exact Le.nil _ | refine And.intro ?_ ?_)
 ·skip
  repeat' (first | refine zqj ?_ | ((refine z03 (N := 5) rfl fun K J => ?_); (simp (disch := omega) only [go_sem, Nat.reduceBEq, ↓reduceIte, reduceCtorEq, Nat.reduceAdd, Nat.reduceLeDiff, Nat.reduceLT, Int.reduceLE, h, List.set_cons_succ, List.set_cons_zero])) | ((refine zqd _ rfl (fun hc => ?_) (fun hc => ?_)) <;> (first | (cases hc; done) | ((try simp only [] at hc); (try (exfalso; omega))))) | (refine J _ ?_; clear J K))
  (refine z1o (fun st => st.t 1 = .ptr 0 0 /\ st.t 2 = .ptr 1 0 /\ st.t 3 = .ptr 2 0 /\ st.H 0 = some (.box 43 (z0f x)) /\ st.H 1 = some (.box 43 zIt) /\ st.H 2 = some (.box 43 [.int .i64 7, .nil, .nil, .int .i64 0, .int .i64 0, .int .i64 0, .int .i64 0, .int .i64 0, .int .i64 0, .str ⟨#[]⟩, .nil, .nil, .nil, .nil, .nil, .str ⟨#[]⟩, .str ⟨#[]⟩, .int .i64 0, .int .i64 0, .str ⟨#[]⟩, .int .i64 0, .int .i64 0, .int .i64 x.day, .str ⟨#[]⟩, .nil]) /\ st.nx = 3) ?_ ?_); rotate_left; (rintro st ⟨p1, p2, p3, pH0, pH1, pH2, pnx⟩); rotate_left
  ·(simp (disch := omega) only [go_sem, Nat.reduceBEq, true_and, and_true, and_self])
   first | exact ⟨rfl, rfl⟩ | exact rfl
  repeat' (first | refine zqj ?_ | ((first | refine z03 (N := 25) rfl fun K J => ?_ | refine zqq (by decide +kernel) fun K J => ?_); (simp (disch := omega) only [go_sem, Nat.reduceBEq, Nat.reduceEqDiff, ↓reduceIte, reduceCtorEq, Nat.reduceAdd, Nat.reduceLeDiff, Nat.reduceLT, Int.reduceEq, p1, p3, pH0, pH2, pnx, h, List.set_cons_succ, List.set_cons_zero])) | ((first | refine zqd _ rfl (fun hc => ?_) (fun hc => ?_) | refine zqm _ rfl (fun hc => ?_) (fun hc => ?_)) <;> (first | (cases hc; done) | ((try simp only [] at hc); (try (exfalso; omega))))) | refine zqa ?_ | refine zqb ?_ | refine zqv ?_ | refine zqy ?_ | (refine J _ ?_; clear J K))
  obtain ⟨L, hL⟩ : ∃ L : List D, L = [.int .i64 7, .nil, .nil, .int .i64 0, .int .i64 0, .int .i64 0, .int .i64 0, .int .i64 0, .int .i64 0, .str ⟨#[]⟩, .nil, .nil, .nil, .nil, .nil, .str ⟨#[]⟩, .str ⟨#[]⟩, .int .i64 0, .int .i64 0, .str ⟨#[]⟩, .int .i64 x.act, .int .i64 x.item, .int .i64 x.day, .str ⟨#[]⟩, .nil] := ⟨_, rfl⟩
  have hl1 : L.length = 25 := by rw [hL]; rfl
  have hl2 : List.take 25 L = L := List.take_of_length_le (by omega)
  have hl3 : z11 zIt 0 L = L := z24 _ _ (by rw [hl1]; rfl)
  (refine z1o (fun st => st.t 2 = .ptr 1 0 /\ st.t 3 = .ptr 2 0 /\ st.H 1 = some (.box 43 zIt) /\ st.H 2 = some (.box 43 L) /\ st.nx = 3) ?_ ?_); rotate_left; (rintro st ⟨r2, r3, rH1, rH2, rnx⟩); rotate_left
  ·(simp (disch := omega) only [go_sem, Nat.reduceBEq, and_self, p2, p3, pH1, pH2, hL])
  repeat' (first | ((refine zqh fun K J => ?_); (simp (disch := omega) only [go_sem, Nat.reduceBEq, ↓reduceIte, Nat.reduceAdd, Nat.reduceLeDiff, r2, r3, rH1, rH2, rnx, hl1, hl2, hl3, hzl])) | refine zqn ?_ | refine zqu (by (simp (disch := omega) only [go_sem, Nat.reduceBEq, ↓reduceIte, Nat.reduceLeDiff, r2, rH1, hl1, hl2]); rfl) rfl ?_ | (refine J _ ?_; clear J K))
  refine z09 ?_ (z4t ?_)
  ·rw [hL]
   simp only [pureD, pureD.pureL, Bool.and_self]
  ·clear hl1 hl2 hl3 r2 r3 rH1 rH2 rnx p1 p2 p3 pH0 pH1 pH2 pnx
   cases x
   simp only [It.kind, It.at_, It.to, It.wh, It.nth, It.unit, It.old, It.new, It.label, It.for_, It.sk, It.sd, It.se, It.act, It.item, It.day, It.event, It.by_] at h hL ⊢
   subst h
   rw [z0b, hL]
   repeat' (first | exact trivial | exact Le.refl _ | exact Le.nil _ | refine And.intro ?_ ?_)
 ·skip
  repeat' (first | refine zqj ?_ | ((refine z03 (N := 5) rfl fun K J => ?_); (simp (disch := omega) only [go_sem, Nat.reduceBEq, ↓reduceIte, reduceCtorEq, Nat.reduceAdd, Nat.reduceLeDiff, Nat.reduceLT, Int.reduceLE, h, List.set_cons_succ, List.set_cons_zero])) | ((refine zqd _ rfl (fun hc => ?_) (fun hc => ?_)) <;> (first | (cases hc; done) | ((try simp only [] at hc); (try (exfalso; omega))))) | (refine J _ ?_; clear J K))
  (refine z1o (fun st => st.t 1 = .ptr 0 0 /\ st.t 2 = .ptr 1 0 /\ st.t 3 = .ptr 2 0 /\ st.H 0 = some (.box 43 (z0f x)) /\ st.H 1 = some (.box 43 zIt) /\ st.H 2 = some (.box 43 [.int .i64 8, .nil, .nil, .int .i64 0, .int .i64 0, .int .i64 0, .int .i64 0, .int .i64 0, .int .i64 0, .str ⟨#[]⟩, .nil, .nil, .nil, .nil, .nil, .str ⟨#[]⟩, .str ⟨#[]⟩, .int .i64 0, .int .i64 0, .str ⟨#[]⟩, .int .i64 0, .int .i64 0, .int .i64 x.day, .str ⟨#[]⟩, .nil]) /\ st.nx = 3) ?_ ?_); rotate_left; (rintro st ⟨p1, p2, p3, pH0, pH1, pH2, pnx⟩); rotate_left
  ·(simp (disch := omega) only [go_sem, Nat.reduceBEq, true_and, and_true, and_self])
   first | exact ⟨rfl, rfl⟩ | exact rfl
  repeat' (first | refine zqj ?_ | ((first | refine z03 (N := 25) rfl fun K J => ?_ | refine zqq (by decide +kernel) fun K J => ?_); (simp (disch := omega) only [go_sem, Nat.reduceBEq, Nat.reduceEqDiff, ↓reduceIte, reduceCtorEq, Nat.reduceAdd, Nat.reduceLeDiff, Nat.reduceLT, Int.reduceEq, p1, p3, pH0, pH2, pnx, h, List.set_cons_succ, List.set_cons_zero])) | ((first | refine zqd _ rfl (fun hc => ?_) (fun hc => ?_) | refine zqm _ rfl (fun hc => ?_) (fun hc => ?_)) <;> (first | (cases hc; done) | ((try simp only [] at hc); (try (exfalso; omega))))) | refine zqa ?_ | refine zqb ?_ | refine zqv ?_ | refine zqy ?_ | (refine J _ ?_; clear J K))
  obtain ⟨L, hL⟩ : ∃ L : List D, L = [.int .i64 8, .nil, .nil, .int .i64 0, .int .i64 0, .int .i64 0, .int .i64 0, .int .i64 0, .int .i64 0, .str ⟨#[]⟩, .nil, .nil, .nil, .nil, .nil, .str ⟨#[]⟩, .str ⟨#[]⟩, .int .i64 0, .int .i64 0, .str ⟨#[]⟩, .int .i64 x.act, .int .i64 x.item, .int .i64 x.day, .str ⟨#[]⟩, .nil] := ⟨_, rfl⟩
  have hl1 : L.length = 25 := by rw [hL]; rfl
  have hl2 : List.take 25 L = L := List.take_of_length_le (by omega)
  have hl3 : z11 zIt 0 L = L := z24 _ _ (by rw [hl1]; rfl)
  (refine z1o (fun st => st.t 2 = .ptr 1 0 /\ st.t 3 = .ptr 2 0 /\ st.H 1 = some (.box 43 zIt) /\ st.H 2 = some (.box 43 L) /\ st.nx = 3) ?_ ?_); rotate_left; (rintro st ⟨r2, r3, rH1, rH2, rnx⟩); rotate_left
  ·(simp (disch := omega) only [go_sem, Nat.reduceBEq, and_self, p2, p3, pH1, pH2, hL])
  repeat' (first | ((refine zqh fun K J => ?_); (simp (disch := omega) only [go_sem, Nat.reduceBEq, ↓reduceIte, Nat.reduceAdd, Nat.reduceLeDiff, r2, r3, rH1, rH2, rnx, hl1, hl2, hl3, hzl])) | refine zqn ?_ | refine zqu (by (simp (disch := omega) only [go_sem, Nat.reduceBEq, ↓reduceIte, Nat.reduceLeDiff, r2, rH1, hl1, hl2]); rfl) rfl ?_ | (refine J _ ?_; clear J K))
  refine z09 ?_ (z4t ?_)
  ·rw [hL]
   simp only [pureD, pureD.pureL, Bool.and_self]
  ·clear hl1 hl2 hl3 r2 r3 rH1 rH2 rnx p1 p2 p3 pH0 pH1 pH2 pnx
   cases x
   simp only [It.kind, It.at_, It.to, It.wh, It.nth, It.unit, It.old, It.new, It.label, It.for_, It.sk, It.sd, It.se, It.act, It.item, It.day, It.event, It.by_] at h hL ⊢
   subst h
   rw [z0b, hL]
   repeat' (first | exact trivial | exact Le.refl _ | exact Le.nil _ | refine And.intro ?_ ?_)
 ·skip
  repeat' (first | refine zqj ?_ | ((refine z03 (N := 5) rfl fun K J => ?_); (simp (disch := omega) only [go_sem, Nat.reduceBEq, ↓reduceIte, reduceCtorEq, Nat.reduceAdd, Nat.reduceLeDiff, Nat.reduceLT, Int.reduceLE, h, List.set_cons_succ, List.set_cons_zero])) | ((refine zqd _ rfl (fun hc => ?_) (fun hc => ?_)) <;> (first | (cases hc; done) | ((try simp only [] at hc); (try (exfalso; omega))))) | (refine J _ ?_; clear J K))
  (refine z1o (fun st => st.t 1 = .ptr 0 0 /\ st.t 2 = .ptr 1 0 /\ st.t 3 = .ptr 2 0 /\ st.H 0 = some (.box 43 (z0f x)) /\ st.H 1 = some (.box 43 zIt) /\ st.H 2 = some (.box 43 [.int .i64 9, .nil, .nil, .int .i64 0, .int .i64 0, .int .i64 0, .int .i64 0, .int .i64 0, .int .i64 0, .str ⟨#[]⟩, .nil, .nil, .nil, .nil, .nil, .str ⟨#[]⟩, .str ⟨#[]⟩, .int .i64 0, .int .i64 0, .str ⟨#[]⟩, .int .i64 0, .int .i64 0, .int .i64 x.day, .str ⟨#[]⟩, .nil]) /\ st.nx = 3) ?_ ?_); rotate_left; (rintro st ⟨p1, p2, p3, pH0, pH1, pH2, pnx⟩); rotate_left
  ·(simp (disch := omega) only [go_sem, Nat.reduceBEq, true_and, and_true, and_self])
   first | exact ⟨rfl, rfl⟩ | exact rfl
  repeat' (first | refine zqj ?_ | ((first | refine z03 (N := 25) rfl fun K J => ?_ | refine zqq (by decide +kernel) fun K J => ?_); (simp (disch := omega) only [go_sem, Nat.reduceBEq, Nat.reduceEqDiff, ↓reduceIte, reduceCtorEq, Nat.reduceAdd, Nat.reduceLeDiff, Nat.reduceLT, Int.reduceEq, p1, p3, pH0, pH2, pnx, h, List.set_cons_succ, List.set_cons_zero])) | ((first | refine zqd _ rfl (fun hc => ?_) (fun hc => ?_) | refine zqm _ rfl (fun hc => ?_) (fun hc => ?_)) <;> (first | (cases hc; done) | ((try simp only [] at hc); (try (exfalso; omega))))) | refine zqa ?_ | refine zqv ?_ | refine zqy ?_ | (refine J _ ?_; clear J K))
  obtain ⟨L, hL⟩ : ∃ L : List D, L = [.int .i64 9, .nil, .nil, .int .i64 0, .int .i64 0, .int .i64 0, .int .i64 0, .int .i64 0, .int .i64 0, .str ⟨#[]⟩, .nil, .nil, .nil, .nil, .nil, .str ⟨#[]⟩, .str ⟨#[]⟩, .int .i64 0, .int .i64 0, .str ⟨#[]⟩, .int .i64 x.act, .int .i64 x.item, .int .i64 x.day, .str ⟨#[]⟩, .nil] := ⟨_, rfl⟩
  have hl1 : L.length = 25 := by rw [hL]; rfl
  have hl2 : List.take 25 L = L := List.take_of_length_le (by omega)
  have hl3 : z11 zIt 0 L = L := z24 _ _ (by rw [hl1]; rfl)
  (refine z1o (fun st => st.t 2 = .ptr 1 0 /\ st.t 3 = .ptr 2 0 /\ st.H 1 = some (.box 43 zIt) /\ st.H 2 = some (.box 43 L) /\ st.nx = 3) ?_ ?_); rotate_left; (rintro st ⟨r2, r3, rH1, rH2, rnx⟩); rotate_left
  ·(simp (disch := omega) only [go_sem, Nat.reduceBEq, and_self, p2, p3, pH1, pH2, hL])
  repeat' (first | ((refine zqh fun K J => ?_); (simp (disch := omega) only [go_sem, Nat.reduceBEq, ↓reduceIte, Nat.reduceAdd, Nat.reduceLeDiff, r2, r3, rH1, rH2, rnx, hl1, hl2, hl3, hzl])) | refine zqn ?_ | refine zqu (by (simp (disch := omega) only [go_sem, Nat.reduceBEq, ↓reduceIte, Nat.reduceLeDiff, r2, rH1, hl1, hl2]); rfl) rfl ?_ | (refine J _ ?_; clear J K))
  refine z09 ?_ (z4t ?_)
  ·rw [hL]
   simp only [pureD, pureD.pureL, Bool.and_self]
  ·clear hl1 hl2 hl3 r2 r3 rH1 rH2 rnx p1 p2 p3 pH0 pH1 pH2 pnx
   cases x
   simp only [It.kind, It.at_, It.to, It.wh, It.nth, It.unit, It.old, It.new, It.label, It.for_, It.sk, It.sd, It.se, It.act, It.item, It.day, It.event, It.by_] at h hL ⊢
   subst h
   rw [z0b, hL]
   repeat' (first | exact trivial | exact Le.refl _ | exact Le.nil _ | refine And.intro ?_ ?_)
 ·skip
  repeat' (first | refine zqj ?_ | ((refine z03 (N := 5) rfl fun K J => ?_); (simp (disch := omega) only [go_sem, Nat.reduceBEq, ↓reduceIte, reduceCtorEq, Nat.reduceAdd, Nat.reduceLeDiff, Nat.reduceLT, Int.reduceLE, h, List.set_cons_succ, List.set_cons_zero])) | ((refine zqd _ rfl (fun hc => ?_) (fun hc => ?_)) <;> (first | (cases hc; done) | ((try simp only [] at hc); (try (exfalso; omega))))) | (refine J _ ?_; clear J K))
  (refine z1o (fun st => st.t 1 = .ptr 0 0 /\ st.t 2 = .ptr 1 0 /\ st.t 3 = .ptr 2 0 /\ st.H 0 = some (.box 43 (z0f x)) /\ st.H 1 = some (.box 43 zIt) /\ st.H 2 = some (.box 43 [.int .i64 10, .nil, .nil, .int .i64 0, .int .i64 0, .int .i64 0, .int .i64 0, .int .i64 0, .int .i64 0, .str ⟨#[]⟩, .nil, .nil, .nil, .nil, .nil, .str ⟨#[]⟩, .str ⟨#[]⟩, .int .i64 0, .int .i64 0, .str ⟨#[]⟩, .int .i64 0, .int .i64 0, .int .i64 x.day, .str ⟨#[]⟩, .nil]) /\ st.nx = 3) ?_ ?_); rotate_left; (rintro st ⟨p1, p2, p3, pH0, pH1, pH2, pnx⟩); rotate_left
  ·(simp (disch := omega) only [go_sem, Nat.reduceBEq, true_and, and_true, and_self])
   first | exact ⟨rfl, rfl⟩ | exact rfl
  repeat' (first | refine zqj ?_ | ((first | refine z03 (N := 25) rfl fun K J => ?_ | refine zqr fun K J => ?_); (simp (disch := omega) only [go_sem, Nat.reduceBEq, ↓reduceIte, reduceCtorEq, Nat.reduceAdd, Nat.reduceLeDiff, Nat.reduceLT, Int.reduceEq, p1, p3, pH0, pH2, pnx, h, List.set_cons_succ, List.set_cons_zero])) | ((first | refine zqd _ rfl (fun hc => ?_) (fun hc => ?_) | refine zqm _ rfl (fun hc => ?_) (fun hc => ?_)) <;> (first | (cases hc; done) | ((try simp only [] at hc); (try (exfalso; omega))))) | refine zqa ?_ | refine zqv ?_ | refine zqy ?_ | (refine J _ ?_; clear J K))
  obtain ⟨L, hL⟩ : ∃ L : List D, L = [.int .i64 10, .nil, .nil, .int .i64 0, .int .i64 0, .int .i64 0, .int .i64 0, .int .i64 0, .int .i64 0, .str ⟨#[]⟩, .nil, .nil, .nil, .nil, .nil, .str ⟨#[]⟩, .str ⟨#[]⟩, .int .i64 0, .int .i64 0, .str ⟨#[]⟩, .int .i64 0, .int .i64 0, .int .i64 x.day, .str x.event, .nil] := ⟨_, rfl⟩
  have hl1 : L.length = 25 := by rw [hL]; rfl
  have hl2 : List.take 25 L = L := List.take_of_length_le (by omega)
  have hl3 : z11 zIt 0 L = L := z24 _ _ (by rw [hl1]; rfl)
  (refine z1o (fun st => st.t 2 = .ptr 1 0 /\ st.t 3 = .ptr 2 0 /\ st.H 1 = some (.box 43 zIt) /\ st.H 2 = some (.box 43 L) /\ st.nx = 3) ?_ ?_); rotate_left; (rintro st ⟨r2, r3, rH1, rH2, rnx⟩); rotate_left
  ·(simp (disch := omega) only [go_sem, Nat.reduceBEq, and_self, p2, p3, pH1, pH2, hL])
  repeat' (first | ((refine zqh fun K J => ?_); (simp (disch := omega) only [go_sem, Nat.reduceBEq, ↓reduceIte, Nat.reduceAdd, Nat.reduceLeDiff, r2, r3, rH1, rH2, rnx, hl1, hl2, hl3, hzl])) | refine zqn ?_ | refine zqu (by (simp (disch := omega) only [go_sem, Nat.reduceBEq, ↓reduceIte, Nat.reduceLeDiff, r2, rH1, hl1, hl2]); rfl) rfl ?_ | (refine J _ ?_; clear J K))
  refine z09 ?_ (z4t ?_)
  ·rw [hL]
   simp only [pureD, pureD.pureL, Bool.and_self]
  ·clear hl1 hl2 hl3 r2 r3 rH1 rH2 rnx p1 p2 p3 pH0 pH1 pH2 pnx
   cases x
   simp only [It.kind, It.at_, It.to, It.wh, It.nth, It.unit, It.old, It.new, It.label, It.for_, It.sk, It.sd, It.se, It.act, It.item, It.day, It.event, It.by_] at h hL ⊢
   subst h
   rw [z0b, hL]
   repeat' (first | exact trivial | exact Le.refl _ | exact Le.nil _ | refine And.intro ?_ ?_)
 ·skip
  repeat' (first | refine zqj ?_ | ((refine z03 (N := 5) rfl fun K J => ?_); (simp (disch := omega) only [go_sem, Nat.reduceBEq, ↓reduceIte, reduceCtorEq, Nat.reduceAdd, Nat.reduceLeDiff, Nat.reduceLT, Int.reduceLE, h, List.set_cons_succ, List.set_cons_zero])) | ((refine zqd _ rfl (fun hc => ?_) (fun hc => ?_)) <;> (first | (cases hc; done) | ((try simp only [] at hc); (try (exfalso; omega))))) | (refine J _ ?_; clear J K))
  (refine z1o (fun st => st.t 1 = .ptr 0 0 /\ st.t 2 = .ptr 1 0 /\ st.t 3 = .ptr 2 0 /\ st.H 0 = some (.box 43 (z0f x)) /\ st.H 1 = some (.box 43 zIt) /\ st.H 2 = some (.box 43 [.int .i64 11, .nil, .nil, .int .i64 0, .int .i64 0, .int .i64 0, .int .i64 0, .int .i64 0, .int .i64 0, .str ⟨#[]⟩, .nil, .nil, .nil, .nil, .nil, .str ⟨#[]⟩, .str ⟨#[]⟩, .int .i64 0, .int .i64 0, .str ⟨#[]⟩, .int .i64 0, .int .i64 0, .int .i64 x.day, .str ⟨#[]⟩, .nil]) /\ st.nx = 3) ?_ ?_); rotate_left; (rintro st ⟨p1, p2, p3, pH0, pH1, pH2, pnx⟩); rotate_left
  ·(simp (disch := omega) only [go_sem, Nat.reduceBEq, true_and, and_true, and_self])
   first | exact ⟨rfl, rfl⟩ | exact rfl
  repeat' (first | refine zqj ?_ | ((first | refine z03 (N := 25) rfl fun K J => ?_ | refine zqq (by decide +kernel) fun K J => ?_); (simp (disch := omega) only [go_sem, Nat.reduceBEq, Nat.reduceEqDiff, ↓reduceIte, reduceCtorEq, Nat.reduceAdd, Nat.reduceLeDiff, Nat.reduceLT, Int.reduceEq, p1, p3, pH0, pH2, pnx, h, z2i, List.set_cons_succ, List.set_cons_zero])) | ((first | refine zqd _ rfl (fun hc => ?_) (fun hc => ?_) | refine zqm _ rfl (fun hc => ?_) (fun hc => ?_)) <;> (first | (cases hc; done) | ((try simp only [] at hc); (try (exfalso; omega))))) | refine zqa ?_ | refine zqv ?_ | refine zqy ?_ | (refine J _ ?_; clear J K))
  obtain ⟨L, hL⟩ : ∃ L : List D, L = [.int .i64 11, .nil, .nil, .int .i64 0, .int .i64 0, .int .i64 0, .int .i64 0, .int .i64 0, .int .i64 0, .str ⟨#[]⟩, .nil, .nil, .nil, .nil, .nil, .str ⟨#[]⟩, .str ⟨#[]⟩, .int .i64 0, .int .i64 0, .str ⟨#[]⟩, .int .i64 x.act, .int .i64 x.item, .int .i64 0, .str ⟨#[]⟩, z2i x.by_] := ⟨_, rfl⟩
  have hl1 : L.length = 25 := by rw [hL]; rfl
  have hl2 : List.take 25 L = L := List.take_of_length_le (by omega)
  have hl3 : z11 zIt 0 L = L := z24 _ _ (by rw [hl1]; rfl)
  (refine z1o (fun st => st.t 2 = .ptr 1 0 /\ st.t 3 = .ptr 2 0 /\ st.H 1 = some (.box 43 zIt) /\ st.H 2 = some (.box 43 L) /\ st.nx = 3) ?_ ?_); rotate_left; (rintro st ⟨r2, r3, rH1, rH2, rnx⟩); rotate_left
  ·(simp (disch := omega) only [go_sem, Nat.reduceBEq, and_self, p2, p3, pH1, pH2, hL, z2i])
  repeat' (first | ((refine zqh fun K J => ?_); (simp (disch := omega) only [go_sem, Nat.reduceBEq, ↓reduceIte, Nat.reduceAdd, Nat.reduceLeDiff, r2, r3, rH1, rH2, rnx, hl1, hl2, hl3, hzl])) | refine zqn ?_ | refine zqu (by (simp (disch := omega) only [go_sem, Nat.reduceBEq, ↓reduceIte, Nat.reduceLeDiff, r2, rH1, hl1, hl2]); rfl) rfl ?_ | (refine J _ ?_; clear J K))
  refine z09 ?_ (z4t ?_)
  ·rw [hL]
   simp only [pureD, pureD.pureL, zez, Bool.and_self]
  ·clear hl1 hl2 hl3 r2 r3 rH1 rH2 rnx p1 p2 p3 pH0 pH1 pH2 pnx
   cases x
   simp only [It.kind, It.at_, It.to, It.wh, It.nth, It.unit, It.old, It.new, It.label, It.for_, It.sk, It.sd, It.se, It.act, It.item, It.day, It.event, It.by_] at h hL ⊢
   subst h
   rw [z0b, hL]
   repeat' (first | exact trivial | exact Le.refl _ | exact Le.nil _ | refine And.intro ?_ ?_)
end
end Go.Proofs.YtppebcifiejplaaGreatDoor
